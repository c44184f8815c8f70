import Derived.Test.YtjnkfgigpapeaaaMgQueuePlays9
import Derived.Test.YtjnkfgigpapeaaaMgQueuePlays5
set_option linter.unusedVariables false
set_option linter.unusedSimpArgs false
set_option linter.unnecessarySimpa false
set_option maxHeartbeats 0
set_option maxRecDepth 100000
namespace Go.Proofs.Ytjnkfgigpapeaaa
open Go Go.RowKit

theorem qIless0 (K : List Frm → Sy → Prop) (N : List Ent → SV → Prop) (b cap : Nat) (ao : Option Addr) (rest : List SV) (T : TypeId) (xs : List (Int × Int)) (f : FuncId) (i j : Int) : (run Try.prog [(77, inl Try.prog [] true Try.f77 100)] true [] K (retP Try.prog Try.f135.results.toList N) 900 [.code (bodyOf Try.f135)] ⟨padTo 51 [.ptr 0 b 0, .int .i64 i, .int .i64 j], qhG 149 2 encItI ((0 : Int), (0 : Int)) b ao cap 77 rest T xs⟩) = (
b = b ∧
 (ao = ao ∧ cap = cap ∧ List.length xs = List.length xs ∧ (0 : Int) ≤ i ∧ i < (↑(List.length xs) : Int)) ∧
  (Addr.blkD ao = Addr.blkD ao ∧ Addr.offD ao = Addr.offD ao ∧ 2 = 2 ∧ Int.toNat i < List.length xs ∧ 2 = 2) ∧
   b = b ∧
    (ao = ao ∧ cap = cap ∧ List.length xs = List.length xs ∧ (0 : Int) ≤ j ∧ j < (↑(List.length xs) : Int)) ∧
     (Addr.blkD ao = Addr.blkD ao ∧ Addr.offD ao = Addr.offD ao ∧ 2 = 2 ∧ Int.toNat j < List.length xs ∧ 2 = 2) ∧
      (∀ (b_1 : Nat),
       (Ent.mk (Loc.blk b) (SObj.cells (SV.vec 1 ao (List.length xs) cap :: SV.func (Fn.func (77 : FuncId)) [] [] :: rest) T) =
        Ent.mk (Loc.blk b) (SObj.cells (SV.vec 1 ao (List.length xs) cap :: SV.func (Fn.func (77 : FuncId)) [] [] :: rest) T) ∧
        Ent.mk (Loc.sl ao cap) (SObj.vecL (149 : TypeId) 2 encItI xs ((0 : Int), (0 : Int))) =
         Ent.mk (Loc.sl ao cap) (SObj.vecL (149 : TypeId) 2 encItI xs ((0 : Int), (0 : Int))) ∧
         True) ∧
        ∀ (b_2 : Nat),
         (Ent.mk (Loc.blk b) (SObj.cells (SV.vec 1 ao (List.length xs) cap :: SV.func (Fn.func (77 : FuncId)) [] [] :: rest) T) =
          Ent.mk (Loc.blk b) (SObj.cells (SV.vec 1 ao (List.length xs) cap :: SV.func (Fn.func (77 : FuncId)) [] [] :: rest) T) ∧
          Ent.mk (Loc.sl ao cap) (SObj.vecL (149 : TypeId) 2 encItI xs ((0 : Int), (0 : Int))) =
           Ent.mk (Loc.sl ao cap) (SObj.vecL (149 : TypeId) 2 encItI xs ((0 : Int), (0 : Int))) ∧
           True) ∧
          (b_1 = b_1 ∧ true = true ∧ 2 = 2 ∧ 2 ≤ 2) ∧
           (Ent.mk (Loc.blk b) (SObj.cells (SV.vec 1 ao (List.length xs) cap :: SV.func (Fn.func (77 : FuncId)) [] [] :: rest) T) =
            Ent.mk (Loc.blk b) (SObj.cells (SV.vec 1 ao (List.length xs) cap :: SV.func (Fn.func (77 : FuncId)) [] [] :: rest) T) ∧
            Ent.mk (Loc.sl ao cap) (SObj.vecL (149 : TypeId) 2 encItI xs ((0 : Int), (0 : Int))) =
             Ent.mk (Loc.sl ao cap) (SObj.vecL (149 : TypeId) 2 encItI xs ((0 : Int), (0 : Int))) ∧
             True) ∧
            (b_2 = b_2 ∧ true = true ∧ 2 = 2 ∧ 2 ≤ 2) ∧
             (Ent.mk (Loc.blk b) (SObj.cells (SV.vec 1 ao (List.length xs) cap :: SV.func (Fn.func (77 : FuncId)) [] [] :: rest) T) =
              Ent.mk (Loc.blk b) (SObj.cells (SV.vec 1 ao (List.length xs) cap :: SV.func (Fn.func (77 : FuncId)) [] [] :: rest) T) ∧
              Ent.mk (Loc.sl ao cap) (SObj.vecL (149 : TypeId) 2 encItI xs ((0 : Int), (0 : Int))) =
               Ent.mk (Loc.sl ao cap) (SObj.vecL (149 : TypeId) 2 encItI xs ((0 : Int), (0 : Int))) ∧
               True) ∧
              b = b ∧
               b_1 = b_1 ∧
                b_2 = b_2 ∧
                 true = true ∧
                  (Ent.mk (Loc.blk b) (SObj.cells (SV.vec 1 ao (List.length xs) cap :: SV.func (Fn.func (77 : FuncId)) [] [] :: rest) T) =
                   Ent.mk (Loc.blk b) (SObj.cells (SV.vec 1 ao (List.length xs) cap :: SV.func (Fn.func (77 : FuncId)) [] [] :: rest) T) ∧
                   Ent.mk (Loc.sl ao cap) (SObj.vecL (149 : TypeId) 2 encItI xs ((0 : Int), (0 : Int))) =
                    Ent.mk (Loc.sl ao cap) (SObj.vecL (149 : TypeId) 2 encItI xs ((0 : Int), (0 : Int))) ∧
                    Ent.mk (Loc.blk b_1)
                     (SObj.cells
                      [SV.int IntKind.i64 (List.getD xs (Int.toNat i) ((0 : Int), (0 : Int))).1, SV.int IntKind.i64 (List.getD xs (Int.toNat i) ((0 : Int), (0 : Int))).2]
                      149) =
                     Ent.mk (Loc.blk b_1)
                      (SObj.cells
                       [SV.int IntKind.i64 (List.getD xs (Int.toNat i) ((0 : Int), (0 : Int))).1, SV.int IntKind.i64 (List.getD xs (Int.toNat i) ((0 : Int), (0 : Int))).2]
                       149) ∧
                     Ent.mk (Loc.blk b_2)
                      (SObj.cells
                       [SV.int IntKind.i64 (List.getD xs (Int.toNat j) ((0 : Int), (0 : Int))).1,
                        SV.int IntKind.i64 (List.getD xs (Int.toNat j) ((0 : Int), (0 : Int))).2]
                       149) =
                      Ent.mk (Loc.blk b_2)
                       (SObj.cells
                        [SV.int IntKind.i64 (List.getD xs (Int.toNat j) ((0 : Int), (0 : Int))).1,
                         SV.int IntKind.i64 (List.getD xs (Int.toNat j) ((0 : Int), (0 : Int))).2]
                        149) ∧
                      True) ∧
                   match decide ((List.getD xs (Int.toNat i) ((0 : Int), (0 : Int))).1 < (List.getD xs (Int.toNat j) ((0 : Int), (0 : Int))).1) with
                   | true =>
                    (Ent.mk (Loc.blk b) (SObj.cells (SV.vec 1 ao (List.length xs) cap :: SV.func (Fn.func (77 : FuncId)) [] [] :: rest) T) =
                     Ent.mk (Loc.blk b) (SObj.cells (SV.vec 1 ao (List.length xs) cap :: SV.func (Fn.func (77 : FuncId)) [] [] :: rest) T) ∧
                     Ent.mk (Loc.sl ao cap) (SObj.vecL (149 : TypeId) 2 encItI xs ((0 : Int), (0 : Int))) =
                      Ent.mk (Loc.sl ao cap) (SObj.vecL (149 : TypeId) 2 encItI xs ((0 : Int), (0 : Int))) ∧
                      Ent.mk (Loc.blk b_1)
                       (SObj.cells
                        [SV.int IntKind.i64 (List.getD xs (Int.toNat i) ((0 : Int), (0 : Int))).1,
                         SV.int IntKind.i64 (List.getD xs (Int.toNat i) ((0 : Int), (0 : Int))).2]
                        149) =
                       Ent.mk (Loc.blk b_1)
                        (SObj.cells
                         [SV.int IntKind.i64 (List.getD xs (Int.toNat i) ((0 : Int), (0 : Int))).1,
                          SV.int IntKind.i64 (List.getD xs (Int.toNat i) ((0 : Int), (0 : Int))).2]
                         149) ∧
                       Ent.mk (Loc.blk b_2)
                        (SObj.cells
                         [SV.int IntKind.i64 (List.getD xs (Int.toNat j) ((0 : Int), (0 : Int))).1,
                          SV.int IntKind.i64 (List.getD xs (Int.toNat j) ((0 : Int), (0 : Int))).2]
                         149) =
                        Ent.mk (Loc.blk b_2)
                         (SObj.cells
                          [SV.int IntKind.i64 (List.getD xs (Int.toNat j) ((0 : Int), (0 : Int))).1,
                           SV.int IntKind.i64 (List.getD xs (Int.toNat j) ((0 : Int), (0 : Int))).2]
                          149) ∧
                        True) ∧
                     true = true ∧
                      true = true ∧
                       true = true ∧
                        true = true ∧
                         true = true ∧
                          N
                           [Ent.mk (Loc.blk b) (SObj.cells (SV.vec 1 ao (List.length xs) cap :: SV.func (Fn.func (77 : FuncId)) [] [] :: rest) T),
                            Ent.mk (Loc.sl ao cap) (SObj.vecL (149 : TypeId) 2 encItI xs ((0 : Int), (0 : Int))),
                            Ent.mk (Loc.blk b_1)
                             (SObj.cells
                              [SV.int IntKind.i64 (List.getD xs (Int.toNat i) ((0 : Int), (0 : Int))).1,
                               SV.int IntKind.i64 (List.getD xs (Int.toNat i) ((0 : Int), (0 : Int))).2]
                              149),
                            Ent.mk (Loc.blk b_2)
                             (SObj.cells
                              [SV.int IntKind.i64 (List.getD xs (Int.toNat j) ((0 : Int), (0 : Int))).1,
                               SV.int IntKind.i64 (List.getD xs (Int.toNat j) ((0 : Int), (0 : Int))).2]
                              149)]
                           (SV.bool true)
                   | false =>
                    b = b ∧
                     b_2 = b_2 ∧
                      b_1 = b_1 ∧
                       true = true ∧
                        (Ent.mk (Loc.blk b) (SObj.cells (SV.vec 1 ao (List.length xs) cap :: SV.func (Fn.func (77 : FuncId)) [] [] :: rest) T) =
                         Ent.mk (Loc.blk b) (SObj.cells (SV.vec 1 ao (List.length xs) cap :: SV.func (Fn.func (77 : FuncId)) [] [] :: rest) T) ∧
                         Ent.mk (Loc.sl ao cap) (SObj.vecL (149 : TypeId) 2 encItI xs ((0 : Int), (0 : Int))) =
                          Ent.mk (Loc.sl ao cap) (SObj.vecL (149 : TypeId) 2 encItI xs ((0 : Int), (0 : Int))) ∧
                          Ent.mk (Loc.blk b_1)
                           (SObj.cells
                            [SV.int IntKind.i64 (List.getD xs (Int.toNat i) ((0 : Int), (0 : Int))).1,
                             SV.int IntKind.i64 (List.getD xs (Int.toNat i) ((0 : Int), (0 : Int))).2]
                            149) =
                           Ent.mk (Loc.blk b_1)
                            (SObj.cells
                             [SV.int IntKind.i64 (List.getD xs (Int.toNat i) ((0 : Int), (0 : Int))).1,
                              SV.int IntKind.i64 (List.getD xs (Int.toNat i) ((0 : Int), (0 : Int))).2]
                             149) ∧
                           Ent.mk (Loc.blk b_2)
                            (SObj.cells
                             [SV.int IntKind.i64 (List.getD xs (Int.toNat j) ((0 : Int), (0 : Int))).1,
                              SV.int IntKind.i64 (List.getD xs (Int.toNat j) ((0 : Int), (0 : Int))).2]
                             149) =
                            Ent.mk (Loc.blk b_2)
                             (SObj.cells
                              [SV.int IntKind.i64 (List.getD xs (Int.toNat j) ((0 : Int), (0 : Int))).1,
                               SV.int IntKind.i64 (List.getD xs (Int.toNat j) ((0 : Int), (0 : Int))).2]
                              149) ∧
                            True) ∧
                         match !decide ((List.getD xs (Int.toNat j) ((0 : Int), (0 : Int))).1 < (List.getD xs (Int.toNat i) ((0 : Int), (0 : Int))).1) with
                         | true =>
                          b_1 = b_1 ∧
                           b_2 = b_2 ∧
                            N
                             [Ent.mk (Loc.blk b) (SObj.cells (SV.vec 1 ao (List.length xs) cap :: SV.func (Fn.func (77 : FuncId)) [] [] :: rest) T),
                              Ent.mk (Loc.sl ao cap) (SObj.vecL (149 : TypeId) 2 encItI xs ((0 : Int), (0 : Int))),
                              Ent.mk (Loc.blk b_1)
                               (SObj.cells
                                [SV.int IntKind.i64 (List.getD xs (Int.toNat i) ((0 : Int), (0 : Int))).1,
                                 SV.int IntKind.i64 (List.getD xs (Int.toNat i) ((0 : Int), (0 : Int))).2]
                                149),
                              Ent.mk (Loc.blk b_2)
                               (SObj.cells
                                [SV.int IntKind.i64 (List.getD xs (Int.toNat j) ((0 : Int), (0 : Int))).1,
                                 SV.int IntKind.i64 (List.getD xs (Int.toNat j) ((0 : Int), (0 : Int))).2]
                                149)]
                             (SV.bool (decide ((List.getD xs (Int.toNat i) ((0 : Int), (0 : Int))).2 < (List.getD xs (Int.toNat j) ((0 : Int), (0 : Int))).2)))
                         | false =>
                          N
                           [Ent.mk (Loc.blk b) (SObj.cells (SV.vec 1 ao (List.length xs) cap :: SV.func (Fn.func (77 : FuncId)) [] [] :: rest) T),
                            Ent.mk (Loc.sl ao cap) (SObj.vecL (149 : TypeId) 2 encItI xs ((0 : Int), (0 : Int))),
                            Ent.mk (Loc.blk b_1)
                             (SObj.cells
                              [SV.int IntKind.i64 (List.getD xs (Int.toNat i) ((0 : Int), (0 : Int))).1,
                               SV.int IntKind.i64 (List.getD xs (Int.toNat i) ((0 : Int), (0 : Int))).2]
                              149),
                            Ent.mk (Loc.blk b_2)
                             (SObj.cells
                              [SV.int IntKind.i64 (List.getD xs (Int.toNat j) ((0 : Int), (0 : Int))).1,
                               SV.int IntKind.i64 (List.getD xs (Int.toNat j) ((0 : Int), (0 : Int))).2]
                              149)]
                           (SV.bool false)) ∧
       ∀ (b_1 : Nat),
        (Ent.mk (Loc.blk b) (SObj.cells (SV.vec 1 ao (List.length xs) cap :: SV.func (Fn.func (77 : FuncId)) [] [] :: rest) T) =
         Ent.mk (Loc.blk b) (SObj.cells (SV.vec 1 ao (List.length xs) cap :: SV.func (Fn.func (77 : FuncId)) [] [] :: rest) T) ∧
         Ent.mk (Loc.sl ao cap) (SObj.vecL (149 : TypeId) 2 encItI xs ((0 : Int), (0 : Int))) =
          Ent.mk (Loc.sl ao cap) (SObj.vecL (149 : TypeId) 2 encItI xs ((0 : Int), (0 : Int))) ∧
          True) ∧
         ∀ (b_2 : Nat),
          (Ent.mk (Loc.blk b) (SObj.cells (SV.vec 1 ao (List.length xs) cap :: SV.func (Fn.func (77 : FuncId)) [] [] :: rest) T) =
           Ent.mk (Loc.blk b) (SObj.cells (SV.vec 1 ao (List.length xs) cap :: SV.func (Fn.func (77 : FuncId)) [] [] :: rest) T) ∧
           Ent.mk (Loc.sl ao cap) (SObj.vecL (149 : TypeId) 2 encItI xs ((0 : Int), (0 : Int))) =
            Ent.mk (Loc.sl ao cap) (SObj.vecL (149 : TypeId) 2 encItI xs ((0 : Int), (0 : Int))) ∧
            True) ∧
           (b_2 = b_2 ∧ true = true ∧ 2 = 2 ∧ 2 ≤ 2) ∧
            (Ent.mk (Loc.blk b) (SObj.cells (SV.vec 1 ao (List.length xs) cap :: SV.func (Fn.func (77 : FuncId)) [] [] :: rest) T) =
             Ent.mk (Loc.blk b) (SObj.cells (SV.vec 1 ao (List.length xs) cap :: SV.func (Fn.func (77 : FuncId)) [] [] :: rest) T) ∧
             Ent.mk (Loc.sl ao cap) (SObj.vecL (149 : TypeId) 2 encItI xs ((0 : Int), (0 : Int))) =
              Ent.mk (Loc.sl ao cap) (SObj.vecL (149 : TypeId) 2 encItI xs ((0 : Int), (0 : Int))) ∧
              True) ∧
             (b_1 = b_1 ∧ true = true ∧ 2 = 2 ∧ 2 ≤ 2) ∧
              (Ent.mk (Loc.blk b) (SObj.cells (SV.vec 1 ao (List.length xs) cap :: SV.func (Fn.func (77 : FuncId)) [] [] :: rest) T) =
               Ent.mk (Loc.blk b) (SObj.cells (SV.vec 1 ao (List.length xs) cap :: SV.func (Fn.func (77 : FuncId)) [] [] :: rest) T) ∧
               Ent.mk (Loc.sl ao cap) (SObj.vecL (149 : TypeId) 2 encItI xs ((0 : Int), (0 : Int))) =
                Ent.mk (Loc.sl ao cap) (SObj.vecL (149 : TypeId) 2 encItI xs ((0 : Int), (0 : Int))) ∧
                True) ∧
               b = b ∧
                b_2 = b_2 ∧
                 b_1 = b_1 ∧
                  true = true ∧
                   (Ent.mk (Loc.blk b) (SObj.cells (SV.vec 1 ao (List.length xs) cap :: SV.func (Fn.func (77 : FuncId)) [] [] :: rest) T) =
                    Ent.mk (Loc.blk b) (SObj.cells (SV.vec 1 ao (List.length xs) cap :: SV.func (Fn.func (77 : FuncId)) [] [] :: rest) T) ∧
                    Ent.mk (Loc.sl ao cap) (SObj.vecL (149 : TypeId) 2 encItI xs ((0 : Int), (0 : Int))) =
                     Ent.mk (Loc.sl ao cap) (SObj.vecL (149 : TypeId) 2 encItI xs ((0 : Int), (0 : Int))) ∧
                     Ent.mk (Loc.blk b_1)
                      (SObj.cells
                       [SV.int IntKind.i64 (List.getD xs (Int.toNat j) ((0 : Int), (0 : Int))).1, SV.int IntKind.i64 (List.getD xs (Int.toNat j) ((0 : Int), (0 : Int))).2]
                       149) =
                      Ent.mk (Loc.blk b_1)
                       (SObj.cells
                        [SV.int IntKind.i64 (List.getD xs (Int.toNat j) ((0 : Int), (0 : Int))).1, SV.int IntKind.i64 (List.getD xs (Int.toNat j) ((0 : Int), (0 : Int))).2]
                        149) ∧
                      Ent.mk (Loc.blk b_2)
                       (SObj.cells
                        [SV.int IntKind.i64 (List.getD xs (Int.toNat i) ((0 : Int), (0 : Int))).1,
                         SV.int IntKind.i64 (List.getD xs (Int.toNat i) ((0 : Int), (0 : Int))).2]
                        149) =
                       Ent.mk (Loc.blk b_2)
                        (SObj.cells
                         [SV.int IntKind.i64 (List.getD xs (Int.toNat i) ((0 : Int), (0 : Int))).1,
                          SV.int IntKind.i64 (List.getD xs (Int.toNat i) ((0 : Int), (0 : Int))).2]
                         149) ∧
                       True) ∧
                    match decide ((List.getD xs (Int.toNat i) ((0 : Int), (0 : Int))).1 < (List.getD xs (Int.toNat j) ((0 : Int), (0 : Int))).1) with
                    | true =>
                     (Ent.mk (Loc.blk b) (SObj.cells (SV.vec 1 ao (List.length xs) cap :: SV.func (Fn.func (77 : FuncId)) [] [] :: rest) T) =
                      Ent.mk (Loc.blk b) (SObj.cells (SV.vec 1 ao (List.length xs) cap :: SV.func (Fn.func (77 : FuncId)) [] [] :: rest) T) ∧
                      Ent.mk (Loc.sl ao cap) (SObj.vecL (149 : TypeId) 2 encItI xs ((0 : Int), (0 : Int))) =
                       Ent.mk (Loc.sl ao cap) (SObj.vecL (149 : TypeId) 2 encItI xs ((0 : Int), (0 : Int))) ∧
                       Ent.mk (Loc.blk b_1)
                        (SObj.cells
                         [SV.int IntKind.i64 (List.getD xs (Int.toNat j) ((0 : Int), (0 : Int))).1,
                          SV.int IntKind.i64 (List.getD xs (Int.toNat j) ((0 : Int), (0 : Int))).2]
                         149) =
                        Ent.mk (Loc.blk b_1)
                         (SObj.cells
                          [SV.int IntKind.i64 (List.getD xs (Int.toNat j) ((0 : Int), (0 : Int))).1,
                           SV.int IntKind.i64 (List.getD xs (Int.toNat j) ((0 : Int), (0 : Int))).2]
                          149) ∧
                        Ent.mk (Loc.blk b_2)
                         (SObj.cells
                          [SV.int IntKind.i64 (List.getD xs (Int.toNat i) ((0 : Int), (0 : Int))).1,
                           SV.int IntKind.i64 (List.getD xs (Int.toNat i) ((0 : Int), (0 : Int))).2]
                          149) =
                         Ent.mk (Loc.blk b_2)
                          (SObj.cells
                           [SV.int IntKind.i64 (List.getD xs (Int.toNat i) ((0 : Int), (0 : Int))).1,
                            SV.int IntKind.i64 (List.getD xs (Int.toNat i) ((0 : Int), (0 : Int))).2]
                           149) ∧
                         True) ∧
                      true = true ∧
                       true = true ∧
                        true = true ∧
                         true = true ∧
                          true = true ∧
                           N
                            [Ent.mk (Loc.blk b) (SObj.cells (SV.vec 1 ao (List.length xs) cap :: SV.func (Fn.func (77 : FuncId)) [] [] :: rest) T),
                             Ent.mk (Loc.sl ao cap) (SObj.vecL (149 : TypeId) 2 encItI xs ((0 : Int), (0 : Int))),
                             Ent.mk (Loc.blk b_1)
                              (SObj.cells
                               [SV.int IntKind.i64 (List.getD xs (Int.toNat j) ((0 : Int), (0 : Int))).1,
                                SV.int IntKind.i64 (List.getD xs (Int.toNat j) ((0 : Int), (0 : Int))).2]
                               149),
                             Ent.mk (Loc.blk b_2)
                              (SObj.cells
                               [SV.int IntKind.i64 (List.getD xs (Int.toNat i) ((0 : Int), (0 : Int))).1,
                                SV.int IntKind.i64 (List.getD xs (Int.toNat i) ((0 : Int), (0 : Int))).2]
                               149)]
                            (SV.bool true)
                    | false =>
                     b = b ∧
                      b_1 = b_1 ∧
                       b_2 = b_2 ∧
                        true = true ∧
                         (Ent.mk (Loc.blk b) (SObj.cells (SV.vec 1 ao (List.length xs) cap :: SV.func (Fn.func (77 : FuncId)) [] [] :: rest) T) =
                          Ent.mk (Loc.blk b) (SObj.cells (SV.vec 1 ao (List.length xs) cap :: SV.func (Fn.func (77 : FuncId)) [] [] :: rest) T) ∧
                          Ent.mk (Loc.sl ao cap) (SObj.vecL (149 : TypeId) 2 encItI xs ((0 : Int), (0 : Int))) =
                           Ent.mk (Loc.sl ao cap) (SObj.vecL (149 : TypeId) 2 encItI xs ((0 : Int), (0 : Int))) ∧
                           Ent.mk (Loc.blk b_1)
                            (SObj.cells
                             [SV.int IntKind.i64 (List.getD xs (Int.toNat j) ((0 : Int), (0 : Int))).1,
                              SV.int IntKind.i64 (List.getD xs (Int.toNat j) ((0 : Int), (0 : Int))).2]
                             149) =
                            Ent.mk (Loc.blk b_1)
                             (SObj.cells
                              [SV.int IntKind.i64 (List.getD xs (Int.toNat j) ((0 : Int), (0 : Int))).1,
                               SV.int IntKind.i64 (List.getD xs (Int.toNat j) ((0 : Int), (0 : Int))).2]
                              149) ∧
                            Ent.mk (Loc.blk b_2)
                             (SObj.cells
                              [SV.int IntKind.i64 (List.getD xs (Int.toNat i) ((0 : Int), (0 : Int))).1,
                               SV.int IntKind.i64 (List.getD xs (Int.toNat i) ((0 : Int), (0 : Int))).2]
                              149) =
                             Ent.mk (Loc.blk b_2)
                              (SObj.cells
                               [SV.int IntKind.i64 (List.getD xs (Int.toNat i) ((0 : Int), (0 : Int))).1,
                                SV.int IntKind.i64 (List.getD xs (Int.toNat i) ((0 : Int), (0 : Int))).2]
                               149) ∧
                             True) ∧
                          match !decide ((List.getD xs (Int.toNat j) ((0 : Int), (0 : Int))).1 < (List.getD xs (Int.toNat i) ((0 : Int), (0 : Int))).1) with
                          | true =>
                           b_2 = b_2 ∧
                            b_1 = b_1 ∧
                             N
                              [Ent.mk (Loc.blk b) (SObj.cells (SV.vec 1 ao (List.length xs) cap :: SV.func (Fn.func (77 : FuncId)) [] [] :: rest) T),
                               Ent.mk (Loc.sl ao cap) (SObj.vecL (149 : TypeId) 2 encItI xs ((0 : Int), (0 : Int))),
                               Ent.mk (Loc.blk b_1)
                                (SObj.cells
                                 [SV.int IntKind.i64 (List.getD xs (Int.toNat j) ((0 : Int), (0 : Int))).1,
                                  SV.int IntKind.i64 (List.getD xs (Int.toNat j) ((0 : Int), (0 : Int))).2]
                                 149),
                               Ent.mk (Loc.blk b_2)
                                (SObj.cells
                                 [SV.int IntKind.i64 (List.getD xs (Int.toNat i) ((0 : Int), (0 : Int))).1,
                                  SV.int IntKind.i64 (List.getD xs (Int.toNat i) ((0 : Int), (0 : Int))).2]
                                 149)]
                              (SV.bool (decide ((List.getD xs (Int.toNat i) ((0 : Int), (0 : Int))).2 < (List.getD xs (Int.toNat j) ((0 : Int), (0 : Int))).2)))
                          | false =>
                           N
                            [Ent.mk (Loc.blk b) (SObj.cells (SV.vec 1 ao (List.length xs) cap :: SV.func (Fn.func (77 : FuncId)) [] [] :: rest) T),
                             Ent.mk (Loc.sl ao cap) (SObj.vecL (149 : TypeId) 2 encItI xs ((0 : Int), (0 : Int))),
                             Ent.mk (Loc.blk b_1)
                              (SObj.cells
                               [SV.int IntKind.i64 (List.getD xs (Int.toNat j) ((0 : Int), (0 : Int))).1,
                                SV.int IntKind.i64 (List.getD xs (Int.toNat j) ((0 : Int), (0 : Int))).2]
                               149),
                             Ent.mk (Loc.blk b_2)
                              (SObj.cells
                               [SV.int IntKind.i64 (List.getD xs (Int.toNat i) ((0 : Int), (0 : Int))).1,
                                SV.int IntKind.i64 (List.getD xs (Int.toNat i) ((0 : Int), (0 : Int))).2]
                               149)]
                            (SV.bool false)) := by kernel_rfl


theorem qIless1 (K : List Frm → Sy → Prop) (N : List Ent → SV → Prop) (b cap : Nat) (ao : Option Addr) (rest : List SV) (T : TypeId) (xs : List (Int × Int)) (f : FuncId) (i j : Int) : (run Try.prog [(41, inl Try.prog [] true Try.f41 100)] true [] K (retP Try.prog Try.f135.results.toList N) 900 [.code (bodyOf Try.f135)] ⟨padTo 51 [.ptr 0 b 0, .int .i64 i, .int .i64 j], qhG 149 2 encItI ((0 : Int), (0 : Int)) b ao cap 41 rest T xs⟩) = (
b = b ∧
 (ao = ao ∧ cap = cap ∧ List.length xs = List.length xs ∧ (0 : Int) ≤ i ∧ i < (↑(List.length xs) : Int)) ∧
  (Addr.blkD ao = Addr.blkD ao ∧ Addr.offD ao = Addr.offD ao ∧ 2 = 2 ∧ Int.toNat i < List.length xs ∧ 2 = 2) ∧
   b = b ∧
    (ao = ao ∧ cap = cap ∧ List.length xs = List.length xs ∧ (0 : Int) ≤ j ∧ j < (↑(List.length xs) : Int)) ∧
     (Addr.blkD ao = Addr.blkD ao ∧ Addr.offD ao = Addr.offD ao ∧ 2 = 2 ∧ Int.toNat j < List.length xs ∧ 2 = 2) ∧
      (∀ (b_1 : Nat),
       (Ent.mk (Loc.blk b) (SObj.cells (SV.vec 1 ao (List.length xs) cap :: SV.func (Fn.func (41 : FuncId)) [] [] :: rest) T) =
        Ent.mk (Loc.blk b) (SObj.cells (SV.vec 1 ao (List.length xs) cap :: SV.func (Fn.func (41 : FuncId)) [] [] :: rest) T) ∧
        Ent.mk (Loc.sl ao cap) (SObj.vecL (149 : TypeId) 2 encItI xs ((0 : Int), (0 : Int))) =
         Ent.mk (Loc.sl ao cap) (SObj.vecL (149 : TypeId) 2 encItI xs ((0 : Int), (0 : Int))) ∧
         True) ∧
        ∀ (b_2 : Nat),
         (Ent.mk (Loc.blk b) (SObj.cells (SV.vec 1 ao (List.length xs) cap :: SV.func (Fn.func (41 : FuncId)) [] [] :: rest) T) =
          Ent.mk (Loc.blk b) (SObj.cells (SV.vec 1 ao (List.length xs) cap :: SV.func (Fn.func (41 : FuncId)) [] [] :: rest) T) ∧
          Ent.mk (Loc.sl ao cap) (SObj.vecL (149 : TypeId) 2 encItI xs ((0 : Int), (0 : Int))) =
           Ent.mk (Loc.sl ao cap) (SObj.vecL (149 : TypeId) 2 encItI xs ((0 : Int), (0 : Int))) ∧
           True) ∧
          (b_1 = b_1 ∧ true = true ∧ 2 = 2 ∧ 2 ≤ 2) ∧
           (Ent.mk (Loc.blk b) (SObj.cells (SV.vec 1 ao (List.length xs) cap :: SV.func (Fn.func (41 : FuncId)) [] [] :: rest) T) =
            Ent.mk (Loc.blk b) (SObj.cells (SV.vec 1 ao (List.length xs) cap :: SV.func (Fn.func (41 : FuncId)) [] [] :: rest) T) ∧
            Ent.mk (Loc.sl ao cap) (SObj.vecL (149 : TypeId) 2 encItI xs ((0 : Int), (0 : Int))) =
             Ent.mk (Loc.sl ao cap) (SObj.vecL (149 : TypeId) 2 encItI xs ((0 : Int), (0 : Int))) ∧
             True) ∧
            (b_2 = b_2 ∧ true = true ∧ 2 = 2 ∧ 2 ≤ 2) ∧
             (Ent.mk (Loc.blk b) (SObj.cells (SV.vec 1 ao (List.length xs) cap :: SV.func (Fn.func (41 : FuncId)) [] [] :: rest) T) =
              Ent.mk (Loc.blk b) (SObj.cells (SV.vec 1 ao (List.length xs) cap :: SV.func (Fn.func (41 : FuncId)) [] [] :: rest) T) ∧
              Ent.mk (Loc.sl ao cap) (SObj.vecL (149 : TypeId) 2 encItI xs ((0 : Int), (0 : Int))) =
               Ent.mk (Loc.sl ao cap) (SObj.vecL (149 : TypeId) 2 encItI xs ((0 : Int), (0 : Int))) ∧
               True) ∧
              b = b ∧
               b_1 = b_1 ∧
                b_2 = b_2 ∧
                 true = true ∧
                  (Ent.mk (Loc.blk b) (SObj.cells (SV.vec 1 ao (List.length xs) cap :: SV.func (Fn.func (41 : FuncId)) [] [] :: rest) T) =
                   Ent.mk (Loc.blk b) (SObj.cells (SV.vec 1 ao (List.length xs) cap :: SV.func (Fn.func (41 : FuncId)) [] [] :: rest) T) ∧
                   Ent.mk (Loc.sl ao cap) (SObj.vecL (149 : TypeId) 2 encItI xs ((0 : Int), (0 : Int))) =
                    Ent.mk (Loc.sl ao cap) (SObj.vecL (149 : TypeId) 2 encItI xs ((0 : Int), (0 : Int))) ∧
                    Ent.mk (Loc.blk b_1)
                     (SObj.cells
                      [SV.int IntKind.i64 (List.getD xs (Int.toNat i) ((0 : Int), (0 : Int))).1, SV.int IntKind.i64 (List.getD xs (Int.toNat i) ((0 : Int), (0 : Int))).2]
                      149) =
                     Ent.mk (Loc.blk b_1)
                      (SObj.cells
                       [SV.int IntKind.i64 (List.getD xs (Int.toNat i) ((0 : Int), (0 : Int))).1, SV.int IntKind.i64 (List.getD xs (Int.toNat i) ((0 : Int), (0 : Int))).2]
                       149) ∧
                     Ent.mk (Loc.blk b_2)
                      (SObj.cells
                       [SV.int IntKind.i64 (List.getD xs (Int.toNat j) ((0 : Int), (0 : Int))).1,
                        SV.int IntKind.i64 (List.getD xs (Int.toNat j) ((0 : Int), (0 : Int))).2]
                       149) =
                      Ent.mk (Loc.blk b_2)
                       (SObj.cells
                        [SV.int IntKind.i64 (List.getD xs (Int.toNat j) ((0 : Int), (0 : Int))).1,
                         SV.int IntKind.i64 (List.getD xs (Int.toNat j) ((0 : Int), (0 : Int))).2]
                        149) ∧
                      True) ∧
                   match decide ((List.getD xs (Int.toNat i) ((0 : Int), (0 : Int))).1 < (List.getD xs (Int.toNat j) ((0 : Int), (0 : Int))).1) with
                   | true =>
                    (Ent.mk (Loc.blk b) (SObj.cells (SV.vec 1 ao (List.length xs) cap :: SV.func (Fn.func (41 : FuncId)) [] [] :: rest) T) =
                     Ent.mk (Loc.blk b) (SObj.cells (SV.vec 1 ao (List.length xs) cap :: SV.func (Fn.func (41 : FuncId)) [] [] :: rest) T) ∧
                     Ent.mk (Loc.sl ao cap) (SObj.vecL (149 : TypeId) 2 encItI xs ((0 : Int), (0 : Int))) =
                      Ent.mk (Loc.sl ao cap) (SObj.vecL (149 : TypeId) 2 encItI xs ((0 : Int), (0 : Int))) ∧
                      Ent.mk (Loc.blk b_1)
                       (SObj.cells
                        [SV.int IntKind.i64 (List.getD xs (Int.toNat i) ((0 : Int), (0 : Int))).1,
                         SV.int IntKind.i64 (List.getD xs (Int.toNat i) ((0 : Int), (0 : Int))).2]
                        149) =
                       Ent.mk (Loc.blk b_1)
                        (SObj.cells
                         [SV.int IntKind.i64 (List.getD xs (Int.toNat i) ((0 : Int), (0 : Int))).1,
                          SV.int IntKind.i64 (List.getD xs (Int.toNat i) ((0 : Int), (0 : Int))).2]
                         149) ∧
                       Ent.mk (Loc.blk b_2)
                        (SObj.cells
                         [SV.int IntKind.i64 (List.getD xs (Int.toNat j) ((0 : Int), (0 : Int))).1,
                          SV.int IntKind.i64 (List.getD xs (Int.toNat j) ((0 : Int), (0 : Int))).2]
                         149) =
                        Ent.mk (Loc.blk b_2)
                         (SObj.cells
                          [SV.int IntKind.i64 (List.getD xs (Int.toNat j) ((0 : Int), (0 : Int))).1,
                           SV.int IntKind.i64 (List.getD xs (Int.toNat j) ((0 : Int), (0 : Int))).2]
                          149) ∧
                        True) ∧
                     true = true ∧
                      true = true ∧
                       true = true ∧
                        true = true ∧
                         true = true ∧
                          N
                           [Ent.mk (Loc.blk b) (SObj.cells (SV.vec 1 ao (List.length xs) cap :: SV.func (Fn.func (41 : FuncId)) [] [] :: rest) T),
                            Ent.mk (Loc.sl ao cap) (SObj.vecL (149 : TypeId) 2 encItI xs ((0 : Int), (0 : Int))),
                            Ent.mk (Loc.blk b_1)
                             (SObj.cells
                              [SV.int IntKind.i64 (List.getD xs (Int.toNat i) ((0 : Int), (0 : Int))).1,
                               SV.int IntKind.i64 (List.getD xs (Int.toNat i) ((0 : Int), (0 : Int))).2]
                              149),
                            Ent.mk (Loc.blk b_2)
                             (SObj.cells
                              [SV.int IntKind.i64 (List.getD xs (Int.toNat j) ((0 : Int), (0 : Int))).1,
                               SV.int IntKind.i64 (List.getD xs (Int.toNat j) ((0 : Int), (0 : Int))).2]
                              149)]
                           (SV.bool true)
                   | false =>
                    b = b ∧
                     b_2 = b_2 ∧
                      b_1 = b_1 ∧
                       true = true ∧
                        (Ent.mk (Loc.blk b) (SObj.cells (SV.vec 1 ao (List.length xs) cap :: SV.func (Fn.func (41 : FuncId)) [] [] :: rest) T) =
                         Ent.mk (Loc.blk b) (SObj.cells (SV.vec 1 ao (List.length xs) cap :: SV.func (Fn.func (41 : FuncId)) [] [] :: rest) T) ∧
                         Ent.mk (Loc.sl ao cap) (SObj.vecL (149 : TypeId) 2 encItI xs ((0 : Int), (0 : Int))) =
                          Ent.mk (Loc.sl ao cap) (SObj.vecL (149 : TypeId) 2 encItI xs ((0 : Int), (0 : Int))) ∧
                          Ent.mk (Loc.blk b_1)
                           (SObj.cells
                            [SV.int IntKind.i64 (List.getD xs (Int.toNat i) ((0 : Int), (0 : Int))).1,
                             SV.int IntKind.i64 (List.getD xs (Int.toNat i) ((0 : Int), (0 : Int))).2]
                            149) =
                           Ent.mk (Loc.blk b_1)
                            (SObj.cells
                             [SV.int IntKind.i64 (List.getD xs (Int.toNat i) ((0 : Int), (0 : Int))).1,
                              SV.int IntKind.i64 (List.getD xs (Int.toNat i) ((0 : Int), (0 : Int))).2]
                             149) ∧
                           Ent.mk (Loc.blk b_2)
                            (SObj.cells
                             [SV.int IntKind.i64 (List.getD xs (Int.toNat j) ((0 : Int), (0 : Int))).1,
                              SV.int IntKind.i64 (List.getD xs (Int.toNat j) ((0 : Int), (0 : Int))).2]
                             149) =
                            Ent.mk (Loc.blk b_2)
                             (SObj.cells
                              [SV.int IntKind.i64 (List.getD xs (Int.toNat j) ((0 : Int), (0 : Int))).1,
                               SV.int IntKind.i64 (List.getD xs (Int.toNat j) ((0 : Int), (0 : Int))).2]
                              149) ∧
                            True) ∧
                         match !decide ((List.getD xs (Int.toNat j) ((0 : Int), (0 : Int))).1 < (List.getD xs (Int.toNat i) ((0 : Int), (0 : Int))).1) with
                         | true =>
                          b_1 = b_1 ∧
                           b_2 = b_2 ∧
                            N
                             [Ent.mk (Loc.blk b) (SObj.cells (SV.vec 1 ao (List.length xs) cap :: SV.func (Fn.func (41 : FuncId)) [] [] :: rest) T),
                              Ent.mk (Loc.sl ao cap) (SObj.vecL (149 : TypeId) 2 encItI xs ((0 : Int), (0 : Int))),
                              Ent.mk (Loc.blk b_1)
                               (SObj.cells
                                [SV.int IntKind.i64 (List.getD xs (Int.toNat i) ((0 : Int), (0 : Int))).1,
                                 SV.int IntKind.i64 (List.getD xs (Int.toNat i) ((0 : Int), (0 : Int))).2]
                                149),
                              Ent.mk (Loc.blk b_2)
                               (SObj.cells
                                [SV.int IntKind.i64 (List.getD xs (Int.toNat j) ((0 : Int), (0 : Int))).1,
                                 SV.int IntKind.i64 (List.getD xs (Int.toNat j) ((0 : Int), (0 : Int))).2]
                                149)]
                             (SV.bool (decide ((List.getD xs (Int.toNat i) ((0 : Int), (0 : Int))).2 < (List.getD xs (Int.toNat j) ((0 : Int), (0 : Int))).2)))
                         | false =>
                          N
                           [Ent.mk (Loc.blk b) (SObj.cells (SV.vec 1 ao (List.length xs) cap :: SV.func (Fn.func (41 : FuncId)) [] [] :: rest) T),
                            Ent.mk (Loc.sl ao cap) (SObj.vecL (149 : TypeId) 2 encItI xs ((0 : Int), (0 : Int))),
                            Ent.mk (Loc.blk b_1)
                             (SObj.cells
                              [SV.int IntKind.i64 (List.getD xs (Int.toNat i) ((0 : Int), (0 : Int))).1,
                               SV.int IntKind.i64 (List.getD xs (Int.toNat i) ((0 : Int), (0 : Int))).2]
                              149),
                            Ent.mk (Loc.blk b_2)
                             (SObj.cells
                              [SV.int IntKind.i64 (List.getD xs (Int.toNat j) ((0 : Int), (0 : Int))).1,
                               SV.int IntKind.i64 (List.getD xs (Int.toNat j) ((0 : Int), (0 : Int))).2]
                              149)]
                           (SV.bool false)) ∧
       ∀ (b_1 : Nat),
        (Ent.mk (Loc.blk b) (SObj.cells (SV.vec 1 ao (List.length xs) cap :: SV.func (Fn.func (41 : FuncId)) [] [] :: rest) T) =
         Ent.mk (Loc.blk b) (SObj.cells (SV.vec 1 ao (List.length xs) cap :: SV.func (Fn.func (41 : FuncId)) [] [] :: rest) T) ∧
         Ent.mk (Loc.sl ao cap) (SObj.vecL (149 : TypeId) 2 encItI xs ((0 : Int), (0 : Int))) =
          Ent.mk (Loc.sl ao cap) (SObj.vecL (149 : TypeId) 2 encItI xs ((0 : Int), (0 : Int))) ∧
          True) ∧
         ∀ (b_2 : Nat),
          (Ent.mk (Loc.blk b) (SObj.cells (SV.vec 1 ao (List.length xs) cap :: SV.func (Fn.func (41 : FuncId)) [] [] :: rest) T) =
           Ent.mk (Loc.blk b) (SObj.cells (SV.vec 1 ao (List.length xs) cap :: SV.func (Fn.func (41 : FuncId)) [] [] :: rest) T) ∧
           Ent.mk (Loc.sl ao cap) (SObj.vecL (149 : TypeId) 2 encItI xs ((0 : Int), (0 : Int))) =
            Ent.mk (Loc.sl ao cap) (SObj.vecL (149 : TypeId) 2 encItI xs ((0 : Int), (0 : Int))) ∧
            True) ∧
           (b_2 = b_2 ∧ true = true ∧ 2 = 2 ∧ 2 ≤ 2) ∧
            (Ent.mk (Loc.blk b) (SObj.cells (SV.vec 1 ao (List.length xs) cap :: SV.func (Fn.func (41 : FuncId)) [] [] :: rest) T) =
             Ent.mk (Loc.blk b) (SObj.cells (SV.vec 1 ao (List.length xs) cap :: SV.func (Fn.func (41 : FuncId)) [] [] :: rest) T) ∧
             Ent.mk (Loc.sl ao cap) (SObj.vecL (149 : TypeId) 2 encItI xs ((0 : Int), (0 : Int))) =
              Ent.mk (Loc.sl ao cap) (SObj.vecL (149 : TypeId) 2 encItI xs ((0 : Int), (0 : Int))) ∧
              True) ∧
             (b_1 = b_1 ∧ true = true ∧ 2 = 2 ∧ 2 ≤ 2) ∧
              (Ent.mk (Loc.blk b) (SObj.cells (SV.vec 1 ao (List.length xs) cap :: SV.func (Fn.func (41 : FuncId)) [] [] :: rest) T) =
               Ent.mk (Loc.blk b) (SObj.cells (SV.vec 1 ao (List.length xs) cap :: SV.func (Fn.func (41 : FuncId)) [] [] :: rest) T) ∧
               Ent.mk (Loc.sl ao cap) (SObj.vecL (149 : TypeId) 2 encItI xs ((0 : Int), (0 : Int))) =
                Ent.mk (Loc.sl ao cap) (SObj.vecL (149 : TypeId) 2 encItI xs ((0 : Int), (0 : Int))) ∧
                True) ∧
               b = b ∧
                b_2 = b_2 ∧
                 b_1 = b_1 ∧
                  true = true ∧
                   (Ent.mk (Loc.blk b) (SObj.cells (SV.vec 1 ao (List.length xs) cap :: SV.func (Fn.func (41 : FuncId)) [] [] :: rest) T) =
                    Ent.mk (Loc.blk b) (SObj.cells (SV.vec 1 ao (List.length xs) cap :: SV.func (Fn.func (41 : FuncId)) [] [] :: rest) T) ∧
                    Ent.mk (Loc.sl ao cap) (SObj.vecL (149 : TypeId) 2 encItI xs ((0 : Int), (0 : Int))) =
                     Ent.mk (Loc.sl ao cap) (SObj.vecL (149 : TypeId) 2 encItI xs ((0 : Int), (0 : Int))) ∧
                     Ent.mk (Loc.blk b_1)
                      (SObj.cells
                       [SV.int IntKind.i64 (List.getD xs (Int.toNat j) ((0 : Int), (0 : Int))).1, SV.int IntKind.i64 (List.getD xs (Int.toNat j) ((0 : Int), (0 : Int))).2]
                       149) =
                      Ent.mk (Loc.blk b_1)
                       (SObj.cells
                        [SV.int IntKind.i64 (List.getD xs (Int.toNat j) ((0 : Int), (0 : Int))).1, SV.int IntKind.i64 (List.getD xs (Int.toNat j) ((0 : Int), (0 : Int))).2]
                        149) ∧
                      Ent.mk (Loc.blk b_2)
                       (SObj.cells
                        [SV.int IntKind.i64 (List.getD xs (Int.toNat i) ((0 : Int), (0 : Int))).1,
                         SV.int IntKind.i64 (List.getD xs (Int.toNat i) ((0 : Int), (0 : Int))).2]
                        149) =
                       Ent.mk (Loc.blk b_2)
                        (SObj.cells
                         [SV.int IntKind.i64 (List.getD xs (Int.toNat i) ((0 : Int), (0 : Int))).1,
                          SV.int IntKind.i64 (List.getD xs (Int.toNat i) ((0 : Int), (0 : Int))).2]
                         149) ∧
                       True) ∧
                    match decide ((List.getD xs (Int.toNat i) ((0 : Int), (0 : Int))).1 < (List.getD xs (Int.toNat j) ((0 : Int), (0 : Int))).1) with
                    | true =>
                     (Ent.mk (Loc.blk b) (SObj.cells (SV.vec 1 ao (List.length xs) cap :: SV.func (Fn.func (41 : FuncId)) [] [] :: rest) T) =
                      Ent.mk (Loc.blk b) (SObj.cells (SV.vec 1 ao (List.length xs) cap :: SV.func (Fn.func (41 : FuncId)) [] [] :: rest) T) ∧
                      Ent.mk (Loc.sl ao cap) (SObj.vecL (149 : TypeId) 2 encItI xs ((0 : Int), (0 : Int))) =
                       Ent.mk (Loc.sl ao cap) (SObj.vecL (149 : TypeId) 2 encItI xs ((0 : Int), (0 : Int))) ∧
                       Ent.mk (Loc.blk b_1)
                        (SObj.cells
                         [SV.int IntKind.i64 (List.getD xs (Int.toNat j) ((0 : Int), (0 : Int))).1,
                          SV.int IntKind.i64 (List.getD xs (Int.toNat j) ((0 : Int), (0 : Int))).2]
                         149) =
                        Ent.mk (Loc.blk b_1)
                         (SObj.cells
                          [SV.int IntKind.i64 (List.getD xs (Int.toNat j) ((0 : Int), (0 : Int))).1,
                           SV.int IntKind.i64 (List.getD xs (Int.toNat j) ((0 : Int), (0 : Int))).2]
                          149) ∧
                        Ent.mk (Loc.blk b_2)
                         (SObj.cells
                          [SV.int IntKind.i64 (List.getD xs (Int.toNat i) ((0 : Int), (0 : Int))).1,
                           SV.int IntKind.i64 (List.getD xs (Int.toNat i) ((0 : Int), (0 : Int))).2]
                          149) =
                         Ent.mk (Loc.blk b_2)
                          (SObj.cells
                           [SV.int IntKind.i64 (List.getD xs (Int.toNat i) ((0 : Int), (0 : Int))).1,
                            SV.int IntKind.i64 (List.getD xs (Int.toNat i) ((0 : Int), (0 : Int))).2]
                           149) ∧
                         True) ∧
                      true = true ∧
                       true = true ∧
                        true = true ∧
                         true = true ∧
                          true = true ∧
                           N
                            [Ent.mk (Loc.blk b) (SObj.cells (SV.vec 1 ao (List.length xs) cap :: SV.func (Fn.func (41 : FuncId)) [] [] :: rest) T),
                             Ent.mk (Loc.sl ao cap) (SObj.vecL (149 : TypeId) 2 encItI xs ((0 : Int), (0 : Int))),
                             Ent.mk (Loc.blk b_1)
                              (SObj.cells
                               [SV.int IntKind.i64 (List.getD xs (Int.toNat j) ((0 : Int), (0 : Int))).1,
                                SV.int IntKind.i64 (List.getD xs (Int.toNat j) ((0 : Int), (0 : Int))).2]
                               149),
                             Ent.mk (Loc.blk b_2)
                              (SObj.cells
                               [SV.int IntKind.i64 (List.getD xs (Int.toNat i) ((0 : Int), (0 : Int))).1,
                                SV.int IntKind.i64 (List.getD xs (Int.toNat i) ((0 : Int), (0 : Int))).2]
                               149)]
                            (SV.bool true)
                    | false =>
                     b = b ∧
                      b_1 = b_1 ∧
                       b_2 = b_2 ∧
                        true = true ∧
                         (Ent.mk (Loc.blk b) (SObj.cells (SV.vec 1 ao (List.length xs) cap :: SV.func (Fn.func (41 : FuncId)) [] [] :: rest) T) =
                          Ent.mk (Loc.blk b) (SObj.cells (SV.vec 1 ao (List.length xs) cap :: SV.func (Fn.func (41 : FuncId)) [] [] :: rest) T) ∧
                          Ent.mk (Loc.sl ao cap) (SObj.vecL (149 : TypeId) 2 encItI xs ((0 : Int), (0 : Int))) =
                           Ent.mk (Loc.sl ao cap) (SObj.vecL (149 : TypeId) 2 encItI xs ((0 : Int), (0 : Int))) ∧
                           Ent.mk (Loc.blk b_1)
                            (SObj.cells
                             [SV.int IntKind.i64 (List.getD xs (Int.toNat j) ((0 : Int), (0 : Int))).1,
                              SV.int IntKind.i64 (List.getD xs (Int.toNat j) ((0 : Int), (0 : Int))).2]
                             149) =
                            Ent.mk (Loc.blk b_1)
                             (SObj.cells
                              [SV.int IntKind.i64 (List.getD xs (Int.toNat j) ((0 : Int), (0 : Int))).1,
                               SV.int IntKind.i64 (List.getD xs (Int.toNat j) ((0 : Int), (0 : Int))).2]
                              149) ∧
                            Ent.mk (Loc.blk b_2)
                             (SObj.cells
                              [SV.int IntKind.i64 (List.getD xs (Int.toNat i) ((0 : Int), (0 : Int))).1,
                               SV.int IntKind.i64 (List.getD xs (Int.toNat i) ((0 : Int), (0 : Int))).2]
                              149) =
                             Ent.mk (Loc.blk b_2)
                              (SObj.cells
                               [SV.int IntKind.i64 (List.getD xs (Int.toNat i) ((0 : Int), (0 : Int))).1,
                                SV.int IntKind.i64 (List.getD xs (Int.toNat i) ((0 : Int), (0 : Int))).2]
                               149) ∧
                             True) ∧
                          match !decide ((List.getD xs (Int.toNat j) ((0 : Int), (0 : Int))).1 < (List.getD xs (Int.toNat i) ((0 : Int), (0 : Int))).1) with
                          | true =>
                           b_2 = b_2 ∧
                            b_1 = b_1 ∧
                             N
                              [Ent.mk (Loc.blk b) (SObj.cells (SV.vec 1 ao (List.length xs) cap :: SV.func (Fn.func (41 : FuncId)) [] [] :: rest) T),
                               Ent.mk (Loc.sl ao cap) (SObj.vecL (149 : TypeId) 2 encItI xs ((0 : Int), (0 : Int))),
                               Ent.mk (Loc.blk b_1)
                                (SObj.cells
                                 [SV.int IntKind.i64 (List.getD xs (Int.toNat j) ((0 : Int), (0 : Int))).1,
                                  SV.int IntKind.i64 (List.getD xs (Int.toNat j) ((0 : Int), (0 : Int))).2]
                                 149),
                               Ent.mk (Loc.blk b_2)
                                (SObj.cells
                                 [SV.int IntKind.i64 (List.getD xs (Int.toNat i) ((0 : Int), (0 : Int))).1,
                                  SV.int IntKind.i64 (List.getD xs (Int.toNat i) ((0 : Int), (0 : Int))).2]
                                 149)]
                              (SV.bool (decide ((List.getD xs (Int.toNat i) ((0 : Int), (0 : Int))).2 < (List.getD xs (Int.toNat j) ((0 : Int), (0 : Int))).2)))
                          | false =>
                           N
                            [Ent.mk (Loc.blk b) (SObj.cells (SV.vec 1 ao (List.length xs) cap :: SV.func (Fn.func (41 : FuncId)) [] [] :: rest) T),
                             Ent.mk (Loc.sl ao cap) (SObj.vecL (149 : TypeId) 2 encItI xs ((0 : Int), (0 : Int))),
                             Ent.mk (Loc.blk b_1)
                              (SObj.cells
                               [SV.int IntKind.i64 (List.getD xs (Int.toNat j) ((0 : Int), (0 : Int))).1,
                                SV.int IntKind.i64 (List.getD xs (Int.toNat j) ((0 : Int), (0 : Int))).2]
                               149),
                             Ent.mk (Loc.blk b_2)
                              (SObj.cells
                               [SV.int IntKind.i64 (List.getD xs (Int.toNat i) ((0 : Int), (0 : Int))).1,
                                SV.int IntKind.i64 (List.getD xs (Int.toNat i) ((0 : Int), (0 : Int))).2]
                               149)]
                            (SV.bool false)) := by kernel_rfl


theorem qIless2 (K : List Frm → Sy → Prop) (N : List Ent → SV → Prop) (b cap : Nat) (ao : Option Addr) (rest : List SV) (T : TypeId) (xs : List (Int × Int)) (f : FuncId) (i j : Int) : (run Try.prog [(42, inl Try.prog [] true Try.f42 100)] true [] K (retP Try.prog Try.f135.results.toList N) 900 [.code (bodyOf Try.f135)] ⟨padTo 51 [.ptr 0 b 0, .int .i64 i, .int .i64 j], qhG 149 2 encItI ((0 : Int), (0 : Int)) b ao cap 42 rest T xs⟩) = (
b = b ∧
 (ao = ao ∧ cap = cap ∧ List.length xs = List.length xs ∧ (0 : Int) ≤ i ∧ i < (↑(List.length xs) : Int)) ∧
  (Addr.blkD ao = Addr.blkD ao ∧ Addr.offD ao = Addr.offD ao ∧ 2 = 2 ∧ Int.toNat i < List.length xs ∧ 2 = 2) ∧
   b = b ∧
    (ao = ao ∧ cap = cap ∧ List.length xs = List.length xs ∧ (0 : Int) ≤ j ∧ j < (↑(List.length xs) : Int)) ∧
     (Addr.blkD ao = Addr.blkD ao ∧ Addr.offD ao = Addr.offD ao ∧ 2 = 2 ∧ Int.toNat j < List.length xs ∧ 2 = 2) ∧
      (∀ (b_1 : Nat),
       (Ent.mk (Loc.blk b) (SObj.cells (SV.vec 1 ao (List.length xs) cap :: SV.func (Fn.func (42 : FuncId)) [] [] :: rest) T) =
        Ent.mk (Loc.blk b) (SObj.cells (SV.vec 1 ao (List.length xs) cap :: SV.func (Fn.func (42 : FuncId)) [] [] :: rest) T) ∧
        Ent.mk (Loc.sl ao cap) (SObj.vecL (149 : TypeId) 2 encItI xs ((0 : Int), (0 : Int))) =
         Ent.mk (Loc.sl ao cap) (SObj.vecL (149 : TypeId) 2 encItI xs ((0 : Int), (0 : Int))) ∧
         True) ∧
        ∀ (b_2 : Nat),
         (Ent.mk (Loc.blk b) (SObj.cells (SV.vec 1 ao (List.length xs) cap :: SV.func (Fn.func (42 : FuncId)) [] [] :: rest) T) =
          Ent.mk (Loc.blk b) (SObj.cells (SV.vec 1 ao (List.length xs) cap :: SV.func (Fn.func (42 : FuncId)) [] [] :: rest) T) ∧
          Ent.mk (Loc.sl ao cap) (SObj.vecL (149 : TypeId) 2 encItI xs ((0 : Int), (0 : Int))) =
           Ent.mk (Loc.sl ao cap) (SObj.vecL (149 : TypeId) 2 encItI xs ((0 : Int), (0 : Int))) ∧
           True) ∧
          (b_1 = b_1 ∧ true = true ∧ 2 = 2 ∧ 2 ≤ 2) ∧
           (Ent.mk (Loc.blk b) (SObj.cells (SV.vec 1 ao (List.length xs) cap :: SV.func (Fn.func (42 : FuncId)) [] [] :: rest) T) =
            Ent.mk (Loc.blk b) (SObj.cells (SV.vec 1 ao (List.length xs) cap :: SV.func (Fn.func (42 : FuncId)) [] [] :: rest) T) ∧
            Ent.mk (Loc.sl ao cap) (SObj.vecL (149 : TypeId) 2 encItI xs ((0 : Int), (0 : Int))) =
             Ent.mk (Loc.sl ao cap) (SObj.vecL (149 : TypeId) 2 encItI xs ((0 : Int), (0 : Int))) ∧
             True) ∧
            (b_2 = b_2 ∧ true = true ∧ 2 = 2 ∧ 2 ≤ 2) ∧
             (Ent.mk (Loc.blk b) (SObj.cells (SV.vec 1 ao (List.length xs) cap :: SV.func (Fn.func (42 : FuncId)) [] [] :: rest) T) =
              Ent.mk (Loc.blk b) (SObj.cells (SV.vec 1 ao (List.length xs) cap :: SV.func (Fn.func (42 : FuncId)) [] [] :: rest) T) ∧
              Ent.mk (Loc.sl ao cap) (SObj.vecL (149 : TypeId) 2 encItI xs ((0 : Int), (0 : Int))) =
               Ent.mk (Loc.sl ao cap) (SObj.vecL (149 : TypeId) 2 encItI xs ((0 : Int), (0 : Int))) ∧
               True) ∧
              b = b ∧
               b_1 = b_1 ∧
                b_2 = b_2 ∧
                 true = true ∧
                  (Ent.mk (Loc.blk b) (SObj.cells (SV.vec 1 ao (List.length xs) cap :: SV.func (Fn.func (42 : FuncId)) [] [] :: rest) T) =
                   Ent.mk (Loc.blk b) (SObj.cells (SV.vec 1 ao (List.length xs) cap :: SV.func (Fn.func (42 : FuncId)) [] [] :: rest) T) ∧
                   Ent.mk (Loc.sl ao cap) (SObj.vecL (149 : TypeId) 2 encItI xs ((0 : Int), (0 : Int))) =
                    Ent.mk (Loc.sl ao cap) (SObj.vecL (149 : TypeId) 2 encItI xs ((0 : Int), (0 : Int))) ∧
                    Ent.mk (Loc.blk b_1)
                     (SObj.cells
                      [SV.int IntKind.i64 (List.getD xs (Int.toNat i) ((0 : Int), (0 : Int))).1, SV.int IntKind.i64 (List.getD xs (Int.toNat i) ((0 : Int), (0 : Int))).2]
                      149) =
                     Ent.mk (Loc.blk b_1)
                      (SObj.cells
                       [SV.int IntKind.i64 (List.getD xs (Int.toNat i) ((0 : Int), (0 : Int))).1, SV.int IntKind.i64 (List.getD xs (Int.toNat i) ((0 : Int), (0 : Int))).2]
                       149) ∧
                     Ent.mk (Loc.blk b_2)
                      (SObj.cells
                       [SV.int IntKind.i64 (List.getD xs (Int.toNat j) ((0 : Int), (0 : Int))).1,
                        SV.int IntKind.i64 (List.getD xs (Int.toNat j) ((0 : Int), (0 : Int))).2]
                       149) =
                      Ent.mk (Loc.blk b_2)
                       (SObj.cells
                        [SV.int IntKind.i64 (List.getD xs (Int.toNat j) ((0 : Int), (0 : Int))).1,
                         SV.int IntKind.i64 (List.getD xs (Int.toNat j) ((0 : Int), (0 : Int))).2]
                        149) ∧
                      True) ∧
                   match decide ((List.getD xs (Int.toNat i) ((0 : Int), (0 : Int))).1 > (List.getD xs (Int.toNat j) ((0 : Int), (0 : Int))).1) with
                   | true =>
                    (Ent.mk (Loc.blk b) (SObj.cells (SV.vec 1 ao (List.length xs) cap :: SV.func (Fn.func (42 : FuncId)) [] [] :: rest) T) =
                     Ent.mk (Loc.blk b) (SObj.cells (SV.vec 1 ao (List.length xs) cap :: SV.func (Fn.func (42 : FuncId)) [] [] :: rest) T) ∧
                     Ent.mk (Loc.sl ao cap) (SObj.vecL (149 : TypeId) 2 encItI xs ((0 : Int), (0 : Int))) =
                      Ent.mk (Loc.sl ao cap) (SObj.vecL (149 : TypeId) 2 encItI xs ((0 : Int), (0 : Int))) ∧
                      Ent.mk (Loc.blk b_1)
                       (SObj.cells
                        [SV.int IntKind.i64 (List.getD xs (Int.toNat i) ((0 : Int), (0 : Int))).1,
                         SV.int IntKind.i64 (List.getD xs (Int.toNat i) ((0 : Int), (0 : Int))).2]
                        149) =
                       Ent.mk (Loc.blk b_1)
                        (SObj.cells
                         [SV.int IntKind.i64 (List.getD xs (Int.toNat i) ((0 : Int), (0 : Int))).1,
                          SV.int IntKind.i64 (List.getD xs (Int.toNat i) ((0 : Int), (0 : Int))).2]
                         149) ∧
                       Ent.mk (Loc.blk b_2)
                        (SObj.cells
                         [SV.int IntKind.i64 (List.getD xs (Int.toNat j) ((0 : Int), (0 : Int))).1,
                          SV.int IntKind.i64 (List.getD xs (Int.toNat j) ((0 : Int), (0 : Int))).2]
                         149) =
                        Ent.mk (Loc.blk b_2)
                         (SObj.cells
                          [SV.int IntKind.i64 (List.getD xs (Int.toNat j) ((0 : Int), (0 : Int))).1,
                           SV.int IntKind.i64 (List.getD xs (Int.toNat j) ((0 : Int), (0 : Int))).2]
                          149) ∧
                        True) ∧
                     true = true ∧
                      true = true ∧
                       true = true ∧
                        true = true ∧
                         true = true ∧
                          N
                           [Ent.mk (Loc.blk b) (SObj.cells (SV.vec 1 ao (List.length xs) cap :: SV.func (Fn.func (42 : FuncId)) [] [] :: rest) T),
                            Ent.mk (Loc.sl ao cap) (SObj.vecL (149 : TypeId) 2 encItI xs ((0 : Int), (0 : Int))),
                            Ent.mk (Loc.blk b_1)
                             (SObj.cells
                              [SV.int IntKind.i64 (List.getD xs (Int.toNat i) ((0 : Int), (0 : Int))).1,
                               SV.int IntKind.i64 (List.getD xs (Int.toNat i) ((0 : Int), (0 : Int))).2]
                              149),
                            Ent.mk (Loc.blk b_2)
                             (SObj.cells
                              [SV.int IntKind.i64 (List.getD xs (Int.toNat j) ((0 : Int), (0 : Int))).1,
                               SV.int IntKind.i64 (List.getD xs (Int.toNat j) ((0 : Int), (0 : Int))).2]
                              149)]
                           (SV.bool true)
                   | false =>
                    b = b ∧
                     b_2 = b_2 ∧
                      b_1 = b_1 ∧
                       true = true ∧
                        (Ent.mk (Loc.blk b) (SObj.cells (SV.vec 1 ao (List.length xs) cap :: SV.func (Fn.func (42 : FuncId)) [] [] :: rest) T) =
                         Ent.mk (Loc.blk b) (SObj.cells (SV.vec 1 ao (List.length xs) cap :: SV.func (Fn.func (42 : FuncId)) [] [] :: rest) T) ∧
                         Ent.mk (Loc.sl ao cap) (SObj.vecL (149 : TypeId) 2 encItI xs ((0 : Int), (0 : Int))) =
                          Ent.mk (Loc.sl ao cap) (SObj.vecL (149 : TypeId) 2 encItI xs ((0 : Int), (0 : Int))) ∧
                          Ent.mk (Loc.blk b_1)
                           (SObj.cells
                            [SV.int IntKind.i64 (List.getD xs (Int.toNat i) ((0 : Int), (0 : Int))).1,
                             SV.int IntKind.i64 (List.getD xs (Int.toNat i) ((0 : Int), (0 : Int))).2]
                            149) =
                           Ent.mk (Loc.blk b_1)
                            (SObj.cells
                             [SV.int IntKind.i64 (List.getD xs (Int.toNat i) ((0 : Int), (0 : Int))).1,
                              SV.int IntKind.i64 (List.getD xs (Int.toNat i) ((0 : Int), (0 : Int))).2]
                             149) ∧
                           Ent.mk (Loc.blk b_2)
                            (SObj.cells
                             [SV.int IntKind.i64 (List.getD xs (Int.toNat j) ((0 : Int), (0 : Int))).1,
                              SV.int IntKind.i64 (List.getD xs (Int.toNat j) ((0 : Int), (0 : Int))).2]
                             149) =
                            Ent.mk (Loc.blk b_2)
                             (SObj.cells
                              [SV.int IntKind.i64 (List.getD xs (Int.toNat j) ((0 : Int), (0 : Int))).1,
                               SV.int IntKind.i64 (List.getD xs (Int.toNat j) ((0 : Int), (0 : Int))).2]
                              149) ∧
                            True) ∧
                         match !decide ((List.getD xs (Int.toNat j) ((0 : Int), (0 : Int))).1 > (List.getD xs (Int.toNat i) ((0 : Int), (0 : Int))).1) with
                         | true =>
                          b_1 = b_1 ∧
                           b_2 = b_2 ∧
                            N
                             [Ent.mk (Loc.blk b) (SObj.cells (SV.vec 1 ao (List.length xs) cap :: SV.func (Fn.func (42 : FuncId)) [] [] :: rest) T),
                              Ent.mk (Loc.sl ao cap) (SObj.vecL (149 : TypeId) 2 encItI xs ((0 : Int), (0 : Int))),
                              Ent.mk (Loc.blk b_1)
                               (SObj.cells
                                [SV.int IntKind.i64 (List.getD xs (Int.toNat i) ((0 : Int), (0 : Int))).1,
                                 SV.int IntKind.i64 (List.getD xs (Int.toNat i) ((0 : Int), (0 : Int))).2]
                                149),
                              Ent.mk (Loc.blk b_2)
                               (SObj.cells
                                [SV.int IntKind.i64 (List.getD xs (Int.toNat j) ((0 : Int), (0 : Int))).1,
                                 SV.int IntKind.i64 (List.getD xs (Int.toNat j) ((0 : Int), (0 : Int))).2]
                                149)]
                             (SV.bool (decide ((List.getD xs (Int.toNat i) ((0 : Int), (0 : Int))).2 < (List.getD xs (Int.toNat j) ((0 : Int), (0 : Int))).2)))
                         | false =>
                          N
                           [Ent.mk (Loc.blk b) (SObj.cells (SV.vec 1 ao (List.length xs) cap :: SV.func (Fn.func (42 : FuncId)) [] [] :: rest) T),
                            Ent.mk (Loc.sl ao cap) (SObj.vecL (149 : TypeId) 2 encItI xs ((0 : Int), (0 : Int))),
                            Ent.mk (Loc.blk b_1)
                             (SObj.cells
                              [SV.int IntKind.i64 (List.getD xs (Int.toNat i) ((0 : Int), (0 : Int))).1,
                               SV.int IntKind.i64 (List.getD xs (Int.toNat i) ((0 : Int), (0 : Int))).2]
                              149),
                            Ent.mk (Loc.blk b_2)
                             (SObj.cells
                              [SV.int IntKind.i64 (List.getD xs (Int.toNat j) ((0 : Int), (0 : Int))).1,
                               SV.int IntKind.i64 (List.getD xs (Int.toNat j) ((0 : Int), (0 : Int))).2]
                              149)]
                           (SV.bool false)) ∧
       ∀ (b_1 : Nat),
        (Ent.mk (Loc.blk b) (SObj.cells (SV.vec 1 ao (List.length xs) cap :: SV.func (Fn.func (42 : FuncId)) [] [] :: rest) T) =
         Ent.mk (Loc.blk b) (SObj.cells (SV.vec 1 ao (List.length xs) cap :: SV.func (Fn.func (42 : FuncId)) [] [] :: rest) T) ∧
         Ent.mk (Loc.sl ao cap) (SObj.vecL (149 : TypeId) 2 encItI xs ((0 : Int), (0 : Int))) =
          Ent.mk (Loc.sl ao cap) (SObj.vecL (149 : TypeId) 2 encItI xs ((0 : Int), (0 : Int))) ∧
          True) ∧
         ∀ (b_2 : Nat),
          (Ent.mk (Loc.blk b) (SObj.cells (SV.vec 1 ao (List.length xs) cap :: SV.func (Fn.func (42 : FuncId)) [] [] :: rest) T) =
           Ent.mk (Loc.blk b) (SObj.cells (SV.vec 1 ao (List.length xs) cap :: SV.func (Fn.func (42 : FuncId)) [] [] :: rest) T) ∧
           Ent.mk (Loc.sl ao cap) (SObj.vecL (149 : TypeId) 2 encItI xs ((0 : Int), (0 : Int))) =
            Ent.mk (Loc.sl ao cap) (SObj.vecL (149 : TypeId) 2 encItI xs ((0 : Int), (0 : Int))) ∧
            True) ∧
           (b_2 = b_2 ∧ true = true ∧ 2 = 2 ∧ 2 ≤ 2) ∧
            (Ent.mk (Loc.blk b) (SObj.cells (SV.vec 1 ao (List.length xs) cap :: SV.func (Fn.func (42 : FuncId)) [] [] :: rest) T) =
             Ent.mk (Loc.blk b) (SObj.cells (SV.vec 1 ao (List.length xs) cap :: SV.func (Fn.func (42 : FuncId)) [] [] :: rest) T) ∧
             Ent.mk (Loc.sl ao cap) (SObj.vecL (149 : TypeId) 2 encItI xs ((0 : Int), (0 : Int))) =
              Ent.mk (Loc.sl ao cap) (SObj.vecL (149 : TypeId) 2 encItI xs ((0 : Int), (0 : Int))) ∧
              True) ∧
             (b_1 = b_1 ∧ true = true ∧ 2 = 2 ∧ 2 ≤ 2) ∧
              (Ent.mk (Loc.blk b) (SObj.cells (SV.vec 1 ao (List.length xs) cap :: SV.func (Fn.func (42 : FuncId)) [] [] :: rest) T) =
               Ent.mk (Loc.blk b) (SObj.cells (SV.vec 1 ao (List.length xs) cap :: SV.func (Fn.func (42 : FuncId)) [] [] :: rest) T) ∧
               Ent.mk (Loc.sl ao cap) (SObj.vecL (149 : TypeId) 2 encItI xs ((0 : Int), (0 : Int))) =
                Ent.mk (Loc.sl ao cap) (SObj.vecL (149 : TypeId) 2 encItI xs ((0 : Int), (0 : Int))) ∧
                True) ∧
               b = b ∧
                b_2 = b_2 ∧
                 b_1 = b_1 ∧
                  true = true ∧
                   (Ent.mk (Loc.blk b) (SObj.cells (SV.vec 1 ao (List.length xs) cap :: SV.func (Fn.func (42 : FuncId)) [] [] :: rest) T) =
                    Ent.mk (Loc.blk b) (SObj.cells (SV.vec 1 ao (List.length xs) cap :: SV.func (Fn.func (42 : FuncId)) [] [] :: rest) T) ∧
                    Ent.mk (Loc.sl ao cap) (SObj.vecL (149 : TypeId) 2 encItI xs ((0 : Int), (0 : Int))) =
                     Ent.mk (Loc.sl ao cap) (SObj.vecL (149 : TypeId) 2 encItI xs ((0 : Int), (0 : Int))) ∧
                     Ent.mk (Loc.blk b_1)
                      (SObj.cells
                       [SV.int IntKind.i64 (List.getD xs (Int.toNat j) ((0 : Int), (0 : Int))).1, SV.int IntKind.i64 (List.getD xs (Int.toNat j) ((0 : Int), (0 : Int))).2]
                       149) =
                      Ent.mk (Loc.blk b_1)
                       (SObj.cells
                        [SV.int IntKind.i64 (List.getD xs (Int.toNat j) ((0 : Int), (0 : Int))).1, SV.int IntKind.i64 (List.getD xs (Int.toNat j) ((0 : Int), (0 : Int))).2]
                        149) ∧
                      Ent.mk (Loc.blk b_2)
                       (SObj.cells
                        [SV.int IntKind.i64 (List.getD xs (Int.toNat i) ((0 : Int), (0 : Int))).1,
                         SV.int IntKind.i64 (List.getD xs (Int.toNat i) ((0 : Int), (0 : Int))).2]
                        149) =
                       Ent.mk (Loc.blk b_2)
                        (SObj.cells
                         [SV.int IntKind.i64 (List.getD xs (Int.toNat i) ((0 : Int), (0 : Int))).1,
                          SV.int IntKind.i64 (List.getD xs (Int.toNat i) ((0 : Int), (0 : Int))).2]
                         149) ∧
                       True) ∧
                    match decide ((List.getD xs (Int.toNat i) ((0 : Int), (0 : Int))).1 > (List.getD xs (Int.toNat j) ((0 : Int), (0 : Int))).1) with
                    | true =>
                     (Ent.mk (Loc.blk b) (SObj.cells (SV.vec 1 ao (List.length xs) cap :: SV.func (Fn.func (42 : FuncId)) [] [] :: rest) T) =
                      Ent.mk (Loc.blk b) (SObj.cells (SV.vec 1 ao (List.length xs) cap :: SV.func (Fn.func (42 : FuncId)) [] [] :: rest) T) ∧
                      Ent.mk (Loc.sl ao cap) (SObj.vecL (149 : TypeId) 2 encItI xs ((0 : Int), (0 : Int))) =
                       Ent.mk (Loc.sl ao cap) (SObj.vecL (149 : TypeId) 2 encItI xs ((0 : Int), (0 : Int))) ∧
                       Ent.mk (Loc.blk b_1)
                        (SObj.cells
                         [SV.int IntKind.i64 (List.getD xs (Int.toNat j) ((0 : Int), (0 : Int))).1,
                          SV.int IntKind.i64 (List.getD xs (Int.toNat j) ((0 : Int), (0 : Int))).2]
                         149) =
                        Ent.mk (Loc.blk b_1)
                         (SObj.cells
                          [SV.int IntKind.i64 (List.getD xs (Int.toNat j) ((0 : Int), (0 : Int))).1,
                           SV.int IntKind.i64 (List.getD xs (Int.toNat j) ((0 : Int), (0 : Int))).2]
                          149) ∧
                        Ent.mk (Loc.blk b_2)
                         (SObj.cells
                          [SV.int IntKind.i64 (List.getD xs (Int.toNat i) ((0 : Int), (0 : Int))).1,
                           SV.int IntKind.i64 (List.getD xs (Int.toNat i) ((0 : Int), (0 : Int))).2]
                          149) =
                         Ent.mk (Loc.blk b_2)
                          (SObj.cells
                           [SV.int IntKind.i64 (List.getD xs (Int.toNat i) ((0 : Int), (0 : Int))).1,
                            SV.int IntKind.i64 (List.getD xs (Int.toNat i) ((0 : Int), (0 : Int))).2]
                           149) ∧
                         True) ∧
                      true = true ∧
                       true = true ∧
                        true = true ∧
                         true = true ∧
                          true = true ∧
                           N
                            [Ent.mk (Loc.blk b) (SObj.cells (SV.vec 1 ao (List.length xs) cap :: SV.func (Fn.func (42 : FuncId)) [] [] :: rest) T),
                             Ent.mk (Loc.sl ao cap) (SObj.vecL (149 : TypeId) 2 encItI xs ((0 : Int), (0 : Int))),
                             Ent.mk (Loc.blk b_1)
                              (SObj.cells
                               [SV.int IntKind.i64 (List.getD xs (Int.toNat j) ((0 : Int), (0 : Int))).1,
                                SV.int IntKind.i64 (List.getD xs (Int.toNat j) ((0 : Int), (0 : Int))).2]
                               149),
                             Ent.mk (Loc.blk b_2)
                              (SObj.cells
                               [SV.int IntKind.i64 (List.getD xs (Int.toNat i) ((0 : Int), (0 : Int))).1,
                                SV.int IntKind.i64 (List.getD xs (Int.toNat i) ((0 : Int), (0 : Int))).2]
                               149)]
                            (SV.bool true)
                    | false =>
                     b = b ∧
                      b_1 = b_1 ∧
                       b_2 = b_2 ∧
                        true = true ∧
                         (Ent.mk (Loc.blk b) (SObj.cells (SV.vec 1 ao (List.length xs) cap :: SV.func (Fn.func (42 : FuncId)) [] [] :: rest) T) =
                          Ent.mk (Loc.blk b) (SObj.cells (SV.vec 1 ao (List.length xs) cap :: SV.func (Fn.func (42 : FuncId)) [] [] :: rest) T) ∧
                          Ent.mk (Loc.sl ao cap) (SObj.vecL (149 : TypeId) 2 encItI xs ((0 : Int), (0 : Int))) =
                           Ent.mk (Loc.sl ao cap) (SObj.vecL (149 : TypeId) 2 encItI xs ((0 : Int), (0 : Int))) ∧
                           Ent.mk (Loc.blk b_1)
                            (SObj.cells
                             [SV.int IntKind.i64 (List.getD xs (Int.toNat j) ((0 : Int), (0 : Int))).1,
                              SV.int IntKind.i64 (List.getD xs (Int.toNat j) ((0 : Int), (0 : Int))).2]
                             149) =
                            Ent.mk (Loc.blk b_1)
                             (SObj.cells
                              [SV.int IntKind.i64 (List.getD xs (Int.toNat j) ((0 : Int), (0 : Int))).1,
                               SV.int IntKind.i64 (List.getD xs (Int.toNat j) ((0 : Int), (0 : Int))).2]
                              149) ∧
                            Ent.mk (Loc.blk b_2)
                             (SObj.cells
                              [SV.int IntKind.i64 (List.getD xs (Int.toNat i) ((0 : Int), (0 : Int))).1,
                               SV.int IntKind.i64 (List.getD xs (Int.toNat i) ((0 : Int), (0 : Int))).2]
                              149) =
                             Ent.mk (Loc.blk b_2)
                              (SObj.cells
                               [SV.int IntKind.i64 (List.getD xs (Int.toNat i) ((0 : Int), (0 : Int))).1,
                                SV.int IntKind.i64 (List.getD xs (Int.toNat i) ((0 : Int), (0 : Int))).2]
                               149) ∧
                             True) ∧
                          match !decide ((List.getD xs (Int.toNat j) ((0 : Int), (0 : Int))).1 > (List.getD xs (Int.toNat i) ((0 : Int), (0 : Int))).1) with
                          | true =>
                           b_2 = b_2 ∧
                            b_1 = b_1 ∧
                             N
                              [Ent.mk (Loc.blk b) (SObj.cells (SV.vec 1 ao (List.length xs) cap :: SV.func (Fn.func (42 : FuncId)) [] [] :: rest) T),
                               Ent.mk (Loc.sl ao cap) (SObj.vecL (149 : TypeId) 2 encItI xs ((0 : Int), (0 : Int))),
                               Ent.mk (Loc.blk b_1)
                                (SObj.cells
                                 [SV.int IntKind.i64 (List.getD xs (Int.toNat j) ((0 : Int), (0 : Int))).1,
                                  SV.int IntKind.i64 (List.getD xs (Int.toNat j) ((0 : Int), (0 : Int))).2]
                                 149),
                               Ent.mk (Loc.blk b_2)
                                (SObj.cells
                                 [SV.int IntKind.i64 (List.getD xs (Int.toNat i) ((0 : Int), (0 : Int))).1,
                                  SV.int IntKind.i64 (List.getD xs (Int.toNat i) ((0 : Int), (0 : Int))).2]
                                 149)]
                              (SV.bool (decide ((List.getD xs (Int.toNat i) ((0 : Int), (0 : Int))).2 < (List.getD xs (Int.toNat j) ((0 : Int), (0 : Int))).2)))
                          | false =>
                           N
                            [Ent.mk (Loc.blk b) (SObj.cells (SV.vec 1 ao (List.length xs) cap :: SV.func (Fn.func (42 : FuncId)) [] [] :: rest) T),
                             Ent.mk (Loc.sl ao cap) (SObj.vecL (149 : TypeId) 2 encItI xs ((0 : Int), (0 : Int))),
                             Ent.mk (Loc.blk b_1)
                              (SObj.cells
                               [SV.int IntKind.i64 (List.getD xs (Int.toNat j) ((0 : Int), (0 : Int))).1,
                                SV.int IntKind.i64 (List.getD xs (Int.toNat j) ((0 : Int), (0 : Int))).2]
                               149),
                             Ent.mk (Loc.blk b_2)
                              (SObj.cells
                               [SV.int IntKind.i64 (List.getD xs (Int.toNat i) ((0 : Int), (0 : Int))).1,
                                SV.int IntKind.i64 (List.getD xs (Int.toNat i) ((0 : Int), (0 : Int))).2]
                               149)]
                            (SV.bool false)) := by kernel_rfl


theorem qIless3 (K : List Frm → Sy → Prop) (N : List Ent → SV → Prop) (b cap : Nat) (ao : Option Addr) (rest : List SV) (T : TypeId) (xs : List (Int × Int)) (f : FuncId) (i j : Int) : (run Try.prog [(53, inl Try.prog [] true Try.f53 100)] true [] K (retP Try.prog Try.f135.results.toList N) 900 [.code (bodyOf Try.f135)] ⟨padTo 51 [.ptr 0 b 0, .int .i64 i, .int .i64 j], qhG 149 2 encItI ((0 : Int), (0 : Int)) b ao cap 53 rest T xs⟩) = (
b = b ∧
 (ao = ao ∧ cap = cap ∧ List.length xs = List.length xs ∧ (0 : Int) ≤ i ∧ i < (↑(List.length xs) : Int)) ∧
  (Addr.blkD ao = Addr.blkD ao ∧ Addr.offD ao = Addr.offD ao ∧ 2 = 2 ∧ Int.toNat i < List.length xs ∧ 2 = 2) ∧
   b = b ∧
    (ao = ao ∧ cap = cap ∧ List.length xs = List.length xs ∧ (0 : Int) ≤ j ∧ j < (↑(List.length xs) : Int)) ∧
     (Addr.blkD ao = Addr.blkD ao ∧ Addr.offD ao = Addr.offD ao ∧ 2 = 2 ∧ Int.toNat j < List.length xs ∧ 2 = 2) ∧
      (∀ (b_1 : Nat),
       (Ent.mk (Loc.blk b) (SObj.cells (SV.vec 1 ao (List.length xs) cap :: SV.func (Fn.func (53 : FuncId)) [] [] :: rest) T) =
        Ent.mk (Loc.blk b) (SObj.cells (SV.vec 1 ao (List.length xs) cap :: SV.func (Fn.func (53 : FuncId)) [] [] :: rest) T) ∧
        Ent.mk (Loc.sl ao cap) (SObj.vecL (149 : TypeId) 2 encItI xs ((0 : Int), (0 : Int))) =
         Ent.mk (Loc.sl ao cap) (SObj.vecL (149 : TypeId) 2 encItI xs ((0 : Int), (0 : Int))) ∧
         True) ∧
        ∀ (b_2 : Nat),
         (Ent.mk (Loc.blk b) (SObj.cells (SV.vec 1 ao (List.length xs) cap :: SV.func (Fn.func (53 : FuncId)) [] [] :: rest) T) =
          Ent.mk (Loc.blk b) (SObj.cells (SV.vec 1 ao (List.length xs) cap :: SV.func (Fn.func (53 : FuncId)) [] [] :: rest) T) ∧
          Ent.mk (Loc.sl ao cap) (SObj.vecL (149 : TypeId) 2 encItI xs ((0 : Int), (0 : Int))) =
           Ent.mk (Loc.sl ao cap) (SObj.vecL (149 : TypeId) 2 encItI xs ((0 : Int), (0 : Int))) ∧
           True) ∧
          (b_1 = b_1 ∧ true = true ∧ 2 = 2 ∧ 2 ≤ 2) ∧
           (Ent.mk (Loc.blk b) (SObj.cells (SV.vec 1 ao (List.length xs) cap :: SV.func (Fn.func (53 : FuncId)) [] [] :: rest) T) =
            Ent.mk (Loc.blk b) (SObj.cells (SV.vec 1 ao (List.length xs) cap :: SV.func (Fn.func (53 : FuncId)) [] [] :: rest) T) ∧
            Ent.mk (Loc.sl ao cap) (SObj.vecL (149 : TypeId) 2 encItI xs ((0 : Int), (0 : Int))) =
             Ent.mk (Loc.sl ao cap) (SObj.vecL (149 : TypeId) 2 encItI xs ((0 : Int), (0 : Int))) ∧
             True) ∧
            (b_2 = b_2 ∧ true = true ∧ 2 = 2 ∧ 2 ≤ 2) ∧
             (Ent.mk (Loc.blk b) (SObj.cells (SV.vec 1 ao (List.length xs) cap :: SV.func (Fn.func (53 : FuncId)) [] [] :: rest) T) =
              Ent.mk (Loc.blk b) (SObj.cells (SV.vec 1 ao (List.length xs) cap :: SV.func (Fn.func (53 : FuncId)) [] [] :: rest) T) ∧
              Ent.mk (Loc.sl ao cap) (SObj.vecL (149 : TypeId) 2 encItI xs ((0 : Int), (0 : Int))) =
               Ent.mk (Loc.sl ao cap) (SObj.vecL (149 : TypeId) 2 encItI xs ((0 : Int), (0 : Int))) ∧
               True) ∧
              b = b ∧
               b_1 = b_1 ∧
                b_2 = b_2 ∧
                 true = true ∧
                  (Ent.mk (Loc.blk b) (SObj.cells (SV.vec 1 ao (List.length xs) cap :: SV.func (Fn.func (53 : FuncId)) [] [] :: rest) T) =
                   Ent.mk (Loc.blk b) (SObj.cells (SV.vec 1 ao (List.length xs) cap :: SV.func (Fn.func (53 : FuncId)) [] [] :: rest) T) ∧
                   Ent.mk (Loc.sl ao cap) (SObj.vecL (149 : TypeId) 2 encItI xs ((0 : Int), (0 : Int))) =
                    Ent.mk (Loc.sl ao cap) (SObj.vecL (149 : TypeId) 2 encItI xs ((0 : Int), (0 : Int))) ∧
                    Ent.mk (Loc.blk b_1)
                     (SObj.cells
                      [SV.int IntKind.i64 (List.getD xs (Int.toNat i) ((0 : Int), (0 : Int))).1, SV.int IntKind.i64 (List.getD xs (Int.toNat i) ((0 : Int), (0 : Int))).2]
                      149) =
                     Ent.mk (Loc.blk b_1)
                      (SObj.cells
                       [SV.int IntKind.i64 (List.getD xs (Int.toNat i) ((0 : Int), (0 : Int))).1, SV.int IntKind.i64 (List.getD xs (Int.toNat i) ((0 : Int), (0 : Int))).2]
                       149) ∧
                     Ent.mk (Loc.blk b_2)
                      (SObj.cells
                       [SV.int IntKind.i64 (List.getD xs (Int.toNat j) ((0 : Int), (0 : Int))).1,
                        SV.int IntKind.i64 (List.getD xs (Int.toNat j) ((0 : Int), (0 : Int))).2]
                       149) =
                      Ent.mk (Loc.blk b_2)
                       (SObj.cells
                        [SV.int IntKind.i64 (List.getD xs (Int.toNat j) ((0 : Int), (0 : Int))).1,
                         SV.int IntKind.i64 (List.getD xs (Int.toNat j) ((0 : Int), (0 : Int))).2]
                        149) ∧
                      True) ∧
                   match decide ((List.getD xs (Int.toNat i) ((0 : Int), (0 : Int))).1 < (List.getD xs (Int.toNat j) ((0 : Int), (0 : Int))).1) with
                   | true =>
                    (Ent.mk (Loc.blk b) (SObj.cells (SV.vec 1 ao (List.length xs) cap :: SV.func (Fn.func (53 : FuncId)) [] [] :: rest) T) =
                     Ent.mk (Loc.blk b) (SObj.cells (SV.vec 1 ao (List.length xs) cap :: SV.func (Fn.func (53 : FuncId)) [] [] :: rest) T) ∧
                     Ent.mk (Loc.sl ao cap) (SObj.vecL (149 : TypeId) 2 encItI xs ((0 : Int), (0 : Int))) =
                      Ent.mk (Loc.sl ao cap) (SObj.vecL (149 : TypeId) 2 encItI xs ((0 : Int), (0 : Int))) ∧
                      Ent.mk (Loc.blk b_1)
                       (SObj.cells
                        [SV.int IntKind.i64 (List.getD xs (Int.toNat i) ((0 : Int), (0 : Int))).1,
                         SV.int IntKind.i64 (List.getD xs (Int.toNat i) ((0 : Int), (0 : Int))).2]
                        149) =
                       Ent.mk (Loc.blk b_1)
                        (SObj.cells
                         [SV.int IntKind.i64 (List.getD xs (Int.toNat i) ((0 : Int), (0 : Int))).1,
                          SV.int IntKind.i64 (List.getD xs (Int.toNat i) ((0 : Int), (0 : Int))).2]
                         149) ∧
                       Ent.mk (Loc.blk b_2)
                        (SObj.cells
                         [SV.int IntKind.i64 (List.getD xs (Int.toNat j) ((0 : Int), (0 : Int))).1,
                          SV.int IntKind.i64 (List.getD xs (Int.toNat j) ((0 : Int), (0 : Int))).2]
                         149) =
                        Ent.mk (Loc.blk b_2)
                         (SObj.cells
                          [SV.int IntKind.i64 (List.getD xs (Int.toNat j) ((0 : Int), (0 : Int))).1,
                           SV.int IntKind.i64 (List.getD xs (Int.toNat j) ((0 : Int), (0 : Int))).2]
                          149) ∧
                        True) ∧
                     true = true ∧
                      true = true ∧
                       true = true ∧
                        true = true ∧
                         true = true ∧
                          N
                           [Ent.mk (Loc.blk b) (SObj.cells (SV.vec 1 ao (List.length xs) cap :: SV.func (Fn.func (53 : FuncId)) [] [] :: rest) T),
                            Ent.mk (Loc.sl ao cap) (SObj.vecL (149 : TypeId) 2 encItI xs ((0 : Int), (0 : Int))),
                            Ent.mk (Loc.blk b_1)
                             (SObj.cells
                              [SV.int IntKind.i64 (List.getD xs (Int.toNat i) ((0 : Int), (0 : Int))).1,
                               SV.int IntKind.i64 (List.getD xs (Int.toNat i) ((0 : Int), (0 : Int))).2]
                              149),
                            Ent.mk (Loc.blk b_2)
                             (SObj.cells
                              [SV.int IntKind.i64 (List.getD xs (Int.toNat j) ((0 : Int), (0 : Int))).1,
                               SV.int IntKind.i64 (List.getD xs (Int.toNat j) ((0 : Int), (0 : Int))).2]
                              149)]
                           (SV.bool true)
                   | false =>
                    b = b ∧
                     b_2 = b_2 ∧
                      b_1 = b_1 ∧
                       true = true ∧
                        (Ent.mk (Loc.blk b) (SObj.cells (SV.vec 1 ao (List.length xs) cap :: SV.func (Fn.func (53 : FuncId)) [] [] :: rest) T) =
                         Ent.mk (Loc.blk b) (SObj.cells (SV.vec 1 ao (List.length xs) cap :: SV.func (Fn.func (53 : FuncId)) [] [] :: rest) T) ∧
                         Ent.mk (Loc.sl ao cap) (SObj.vecL (149 : TypeId) 2 encItI xs ((0 : Int), (0 : Int))) =
                          Ent.mk (Loc.sl ao cap) (SObj.vecL (149 : TypeId) 2 encItI xs ((0 : Int), (0 : Int))) ∧
                          Ent.mk (Loc.blk b_1)
                           (SObj.cells
                            [SV.int IntKind.i64 (List.getD xs (Int.toNat i) ((0 : Int), (0 : Int))).1,
                             SV.int IntKind.i64 (List.getD xs (Int.toNat i) ((0 : Int), (0 : Int))).2]
                            149) =
                           Ent.mk (Loc.blk b_1)
                            (SObj.cells
                             [SV.int IntKind.i64 (List.getD xs (Int.toNat i) ((0 : Int), (0 : Int))).1,
                              SV.int IntKind.i64 (List.getD xs (Int.toNat i) ((0 : Int), (0 : Int))).2]
                             149) ∧
                           Ent.mk (Loc.blk b_2)
                            (SObj.cells
                             [SV.int IntKind.i64 (List.getD xs (Int.toNat j) ((0 : Int), (0 : Int))).1,
                              SV.int IntKind.i64 (List.getD xs (Int.toNat j) ((0 : Int), (0 : Int))).2]
                             149) =
                            Ent.mk (Loc.blk b_2)
                             (SObj.cells
                              [SV.int IntKind.i64 (List.getD xs (Int.toNat j) ((0 : Int), (0 : Int))).1,
                               SV.int IntKind.i64 (List.getD xs (Int.toNat j) ((0 : Int), (0 : Int))).2]
                              149) ∧
                            True) ∧
                         match !decide ((List.getD xs (Int.toNat j) ((0 : Int), (0 : Int))).1 < (List.getD xs (Int.toNat i) ((0 : Int), (0 : Int))).1) with
                         | true =>
                          b_1 = b_1 ∧
                           b_2 = b_2 ∧
                            N
                             [Ent.mk (Loc.blk b) (SObj.cells (SV.vec 1 ao (List.length xs) cap :: SV.func (Fn.func (53 : FuncId)) [] [] :: rest) T),
                              Ent.mk (Loc.sl ao cap) (SObj.vecL (149 : TypeId) 2 encItI xs ((0 : Int), (0 : Int))),
                              Ent.mk (Loc.blk b_1)
                               (SObj.cells
                                [SV.int IntKind.i64 (List.getD xs (Int.toNat i) ((0 : Int), (0 : Int))).1,
                                 SV.int IntKind.i64 (List.getD xs (Int.toNat i) ((0 : Int), (0 : Int))).2]
                                149),
                              Ent.mk (Loc.blk b_2)
                               (SObj.cells
                                [SV.int IntKind.i64 (List.getD xs (Int.toNat j) ((0 : Int), (0 : Int))).1,
                                 SV.int IntKind.i64 (List.getD xs (Int.toNat j) ((0 : Int), (0 : Int))).2]
                                149)]
                             (SV.bool (decide ((List.getD xs (Int.toNat i) ((0 : Int), (0 : Int))).2 < (List.getD xs (Int.toNat j) ((0 : Int), (0 : Int))).2)))
                         | false =>
                          N
                           [Ent.mk (Loc.blk b) (SObj.cells (SV.vec 1 ao (List.length xs) cap :: SV.func (Fn.func (53 : FuncId)) [] [] :: rest) T),
                            Ent.mk (Loc.sl ao cap) (SObj.vecL (149 : TypeId) 2 encItI xs ((0 : Int), (0 : Int))),
                            Ent.mk (Loc.blk b_1)
                             (SObj.cells
                              [SV.int IntKind.i64 (List.getD xs (Int.toNat i) ((0 : Int), (0 : Int))).1,
                               SV.int IntKind.i64 (List.getD xs (Int.toNat i) ((0 : Int), (0 : Int))).2]
                              149),
                            Ent.mk (Loc.blk b_2)
                             (SObj.cells
                              [SV.int IntKind.i64 (List.getD xs (Int.toNat j) ((0 : Int), (0 : Int))).1,
                               SV.int IntKind.i64 (List.getD xs (Int.toNat j) ((0 : Int), (0 : Int))).2]
                              149)]
                           (SV.bool false)) ∧
       ∀ (b_1 : Nat),
        (Ent.mk (Loc.blk b) (SObj.cells (SV.vec 1 ao (List.length xs) cap :: SV.func (Fn.func (53 : FuncId)) [] [] :: rest) T) =
         Ent.mk (Loc.blk b) (SObj.cells (SV.vec 1 ao (List.length xs) cap :: SV.func (Fn.func (53 : FuncId)) [] [] :: rest) T) ∧
         Ent.mk (Loc.sl ao cap) (SObj.vecL (149 : TypeId) 2 encItI xs ((0 : Int), (0 : Int))) =
          Ent.mk (Loc.sl ao cap) (SObj.vecL (149 : TypeId) 2 encItI xs ((0 : Int), (0 : Int))) ∧
          True) ∧
         ∀ (b_2 : Nat),
          (Ent.mk (Loc.blk b) (SObj.cells (SV.vec 1 ao (List.length xs) cap :: SV.func (Fn.func (53 : FuncId)) [] [] :: rest) T) =
           Ent.mk (Loc.blk b) (SObj.cells (SV.vec 1 ao (List.length xs) cap :: SV.func (Fn.func (53 : FuncId)) [] [] :: rest) T) ∧
           Ent.mk (Loc.sl ao cap) (SObj.vecL (149 : TypeId) 2 encItI xs ((0 : Int), (0 : Int))) =
            Ent.mk (Loc.sl ao cap) (SObj.vecL (149 : TypeId) 2 encItI xs ((0 : Int), (0 : Int))) ∧
            True) ∧
           (b_2 = b_2 ∧ true = true ∧ 2 = 2 ∧ 2 ≤ 2) ∧
            (Ent.mk (Loc.blk b) (SObj.cells (SV.vec 1 ao (List.length xs) cap :: SV.func (Fn.func (53 : FuncId)) [] [] :: rest) T) =
             Ent.mk (Loc.blk b) (SObj.cells (SV.vec 1 ao (List.length xs) cap :: SV.func (Fn.func (53 : FuncId)) [] [] :: rest) T) ∧
             Ent.mk (Loc.sl ao cap) (SObj.vecL (149 : TypeId) 2 encItI xs ((0 : Int), (0 : Int))) =
              Ent.mk (Loc.sl ao cap) (SObj.vecL (149 : TypeId) 2 encItI xs ((0 : Int), (0 : Int))) ∧
              True) ∧
             (b_1 = b_1 ∧ true = true ∧ 2 = 2 ∧ 2 ≤ 2) ∧
              (Ent.mk (Loc.blk b) (SObj.cells (SV.vec 1 ao (List.length xs) cap :: SV.func (Fn.func (53 : FuncId)) [] [] :: rest) T) =
               Ent.mk (Loc.blk b) (SObj.cells (SV.vec 1 ao (List.length xs) cap :: SV.func (Fn.func (53 : FuncId)) [] [] :: rest) T) ∧
               Ent.mk (Loc.sl ao cap) (SObj.vecL (149 : TypeId) 2 encItI xs ((0 : Int), (0 : Int))) =
                Ent.mk (Loc.sl ao cap) (SObj.vecL (149 : TypeId) 2 encItI xs ((0 : Int), (0 : Int))) ∧
                True) ∧
               b = b ∧
                b_2 = b_2 ∧
                 b_1 = b_1 ∧
                  true = true ∧
                   (Ent.mk (Loc.blk b) (SObj.cells (SV.vec 1 ao (List.length xs) cap :: SV.func (Fn.func (53 : FuncId)) [] [] :: rest) T) =
                    Ent.mk (Loc.blk b) (SObj.cells (SV.vec 1 ao (List.length xs) cap :: SV.func (Fn.func (53 : FuncId)) [] [] :: rest) T) ∧
                    Ent.mk (Loc.sl ao cap) (SObj.vecL (149 : TypeId) 2 encItI xs ((0 : Int), (0 : Int))) =
                     Ent.mk (Loc.sl ao cap) (SObj.vecL (149 : TypeId) 2 encItI xs ((0 : Int), (0 : Int))) ∧
                     Ent.mk (Loc.blk b_1)
                      (SObj.cells
                       [SV.int IntKind.i64 (List.getD xs (Int.toNat j) ((0 : Int), (0 : Int))).1, SV.int IntKind.i64 (List.getD xs (Int.toNat j) ((0 : Int), (0 : Int))).2]
                       149) =
                      Ent.mk (Loc.blk b_1)
                       (SObj.cells
                        [SV.int IntKind.i64 (List.getD xs (Int.toNat j) ((0 : Int), (0 : Int))).1, SV.int IntKind.i64 (List.getD xs (Int.toNat j) ((0 : Int), (0 : Int))).2]
                        149) ∧
                      Ent.mk (Loc.blk b_2)
                       (SObj.cells
                        [SV.int IntKind.i64 (List.getD xs (Int.toNat i) ((0 : Int), (0 : Int))).1,
                         SV.int IntKind.i64 (List.getD xs (Int.toNat i) ((0 : Int), (0 : Int))).2]
                        149) =
                       Ent.mk (Loc.blk b_2)
                        (SObj.cells
                         [SV.int IntKind.i64 (List.getD xs (Int.toNat i) ((0 : Int), (0 : Int))).1,
                          SV.int IntKind.i64 (List.getD xs (Int.toNat i) ((0 : Int), (0 : Int))).2]
                         149) ∧
                       True) ∧
                    match decide ((List.getD xs (Int.toNat i) ((0 : Int), (0 : Int))).1 < (List.getD xs (Int.toNat j) ((0 : Int), (0 : Int))).1) with
                    | true =>
                     (Ent.mk (Loc.blk b) (SObj.cells (SV.vec 1 ao (List.length xs) cap :: SV.func (Fn.func (53 : FuncId)) [] [] :: rest) T) =
                      Ent.mk (Loc.blk b) (SObj.cells (SV.vec 1 ao (List.length xs) cap :: SV.func (Fn.func (53 : FuncId)) [] [] :: rest) T) ∧
                      Ent.mk (Loc.sl ao cap) (SObj.vecL (149 : TypeId) 2 encItI xs ((0 : Int), (0 : Int))) =
                       Ent.mk (Loc.sl ao cap) (SObj.vecL (149 : TypeId) 2 encItI xs ((0 : Int), (0 : Int))) ∧
                       Ent.mk (Loc.blk b_1)
                        (SObj.cells
                         [SV.int IntKind.i64 (List.getD xs (Int.toNat j) ((0 : Int), (0 : Int))).1,
                          SV.int IntKind.i64 (List.getD xs (Int.toNat j) ((0 : Int), (0 : Int))).2]
                         149) =
                        Ent.mk (Loc.blk b_1)
                         (SObj.cells
                          [SV.int IntKind.i64 (List.getD xs (Int.toNat j) ((0 : Int), (0 : Int))).1,
                           SV.int IntKind.i64 (List.getD xs (Int.toNat j) ((0 : Int), (0 : Int))).2]
                          149) ∧
                        Ent.mk (Loc.blk b_2)
                         (SObj.cells
                          [SV.int IntKind.i64 (List.getD xs (Int.toNat i) ((0 : Int), (0 : Int))).1,
                           SV.int IntKind.i64 (List.getD xs (Int.toNat i) ((0 : Int), (0 : Int))).2]
                          149) =
                         Ent.mk (Loc.blk b_2)
                          (SObj.cells
                           [SV.int IntKind.i64 (List.getD xs (Int.toNat i) ((0 : Int), (0 : Int))).1,
                            SV.int IntKind.i64 (List.getD xs (Int.toNat i) ((0 : Int), (0 : Int))).2]
                           149) ∧
                         True) ∧
                      true = true ∧
                       true = true ∧
                        true = true ∧
                         true = true ∧
                          true = true ∧
                           N
                            [Ent.mk (Loc.blk b) (SObj.cells (SV.vec 1 ao (List.length xs) cap :: SV.func (Fn.func (53 : FuncId)) [] [] :: rest) T),
                             Ent.mk (Loc.sl ao cap) (SObj.vecL (149 : TypeId) 2 encItI xs ((0 : Int), (0 : Int))),
                             Ent.mk (Loc.blk b_1)
                              (SObj.cells
                               [SV.int IntKind.i64 (List.getD xs (Int.toNat j) ((0 : Int), (0 : Int))).1,
                                SV.int IntKind.i64 (List.getD xs (Int.toNat j) ((0 : Int), (0 : Int))).2]
                               149),
                             Ent.mk (Loc.blk b_2)
                              (SObj.cells
                               [SV.int IntKind.i64 (List.getD xs (Int.toNat i) ((0 : Int), (0 : Int))).1,
                                SV.int IntKind.i64 (List.getD xs (Int.toNat i) ((0 : Int), (0 : Int))).2]
                               149)]
                            (SV.bool true)
                    | false =>
                     b = b ∧
                      b_1 = b_1 ∧
                       b_2 = b_2 ∧
                        true = true ∧
                         (Ent.mk (Loc.blk b) (SObj.cells (SV.vec 1 ao (List.length xs) cap :: SV.func (Fn.func (53 : FuncId)) [] [] :: rest) T) =
                          Ent.mk (Loc.blk b) (SObj.cells (SV.vec 1 ao (List.length xs) cap :: SV.func (Fn.func (53 : FuncId)) [] [] :: rest) T) ∧
                          Ent.mk (Loc.sl ao cap) (SObj.vecL (149 : TypeId) 2 encItI xs ((0 : Int), (0 : Int))) =
                           Ent.mk (Loc.sl ao cap) (SObj.vecL (149 : TypeId) 2 encItI xs ((0 : Int), (0 : Int))) ∧
                           Ent.mk (Loc.blk b_1)
                            (SObj.cells
                             [SV.int IntKind.i64 (List.getD xs (Int.toNat j) ((0 : Int), (0 : Int))).1,
                              SV.int IntKind.i64 (List.getD xs (Int.toNat j) ((0 : Int), (0 : Int))).2]
                             149) =
                            Ent.mk (Loc.blk b_1)
                             (SObj.cells
                              [SV.int IntKind.i64 (List.getD xs (Int.toNat j) ((0 : Int), (0 : Int))).1,
                               SV.int IntKind.i64 (List.getD xs (Int.toNat j) ((0 : Int), (0 : Int))).2]
                              149) ∧
                            Ent.mk (Loc.blk b_2)
                             (SObj.cells
                              [SV.int IntKind.i64 (List.getD xs (Int.toNat i) ((0 : Int), (0 : Int))).1,
                               SV.int IntKind.i64 (List.getD xs (Int.toNat i) ((0 : Int), (0 : Int))).2]
                              149) =
                             Ent.mk (Loc.blk b_2)
                              (SObj.cells
                               [SV.int IntKind.i64 (List.getD xs (Int.toNat i) ((0 : Int), (0 : Int))).1,
                                SV.int IntKind.i64 (List.getD xs (Int.toNat i) ((0 : Int), (0 : Int))).2]
                               149) ∧
                             True) ∧
                          match !decide ((List.getD xs (Int.toNat j) ((0 : Int), (0 : Int))).1 < (List.getD xs (Int.toNat i) ((0 : Int), (0 : Int))).1) with
                          | true =>
                           b_2 = b_2 ∧
                            b_1 = b_1 ∧
                             N
                              [Ent.mk (Loc.blk b) (SObj.cells (SV.vec 1 ao (List.length xs) cap :: SV.func (Fn.func (53 : FuncId)) [] [] :: rest) T),
                               Ent.mk (Loc.sl ao cap) (SObj.vecL (149 : TypeId) 2 encItI xs ((0 : Int), (0 : Int))),
                               Ent.mk (Loc.blk b_1)
                                (SObj.cells
                                 [SV.int IntKind.i64 (List.getD xs (Int.toNat j) ((0 : Int), (0 : Int))).1,
                                  SV.int IntKind.i64 (List.getD xs (Int.toNat j) ((0 : Int), (0 : Int))).2]
                                 149),
                               Ent.mk (Loc.blk b_2)
                                (SObj.cells
                                 [SV.int IntKind.i64 (List.getD xs (Int.toNat i) ((0 : Int), (0 : Int))).1,
                                  SV.int IntKind.i64 (List.getD xs (Int.toNat i) ((0 : Int), (0 : Int))).2]
                                 149)]
                              (SV.bool (decide ((List.getD xs (Int.toNat i) ((0 : Int), (0 : Int))).2 < (List.getD xs (Int.toNat j) ((0 : Int), (0 : Int))).2)))
                          | false =>
                           N
                            [Ent.mk (Loc.blk b) (SObj.cells (SV.vec 1 ao (List.length xs) cap :: SV.func (Fn.func (53 : FuncId)) [] [] :: rest) T),
                             Ent.mk (Loc.sl ao cap) (SObj.vecL (149 : TypeId) 2 encItI xs ((0 : Int), (0 : Int))),
                             Ent.mk (Loc.blk b_1)
                              (SObj.cells
                               [SV.int IntKind.i64 (List.getD xs (Int.toNat j) ((0 : Int), (0 : Int))).1,
                                SV.int IntKind.i64 (List.getD xs (Int.toNat j) ((0 : Int), (0 : Int))).2]
                               149),
                             Ent.mk (Loc.blk b_2)
                              (SObj.cells
                               [SV.int IntKind.i64 (List.getD xs (Int.toNat i) ((0 : Int), (0 : Int))).1,
                                SV.int IntKind.i64 (List.getD xs (Int.toNat i) ((0 : Int), (0 : Int))).2]
                               149)]
                            (SV.bool false)) := by kernel_rfl


theorem qIswap (K : List Frm → Sy → Prop) (N : List Ent → SV → Prop) (b cap : Nat) (ao : Option Addr) (rest : List SV) (T : TypeId) (xs : List (Int × Int)) (f : FuncId) (i j : Int) : (run Try.prog [] false [] K (retP Try.prog Try.f138.results.toList N) 900 [.code (bodyOf Try.f138)] ⟨padTo 32 [.ptr 0 b 0, .int .i64 i, .int .i64 j], qhG 149 2 encItI ((0 : Int), (0 : Int)) b ao cap f rest T xs⟩) = (
b = b ∧
 b = b ∧
  b = b ∧
   (ao = ao ∧ cap = cap ∧ List.length xs = List.length xs ∧ (0 : Int) ≤ j ∧ j < (↑(List.length xs) : Int)) ∧
    (Addr.blkD ao = Addr.blkD ao ∧ Addr.offD ao = Addr.offD ao ∧ 2 = 2 ∧ Int.toNat j < List.length xs ∧ 2 = 2) ∧
     b = b ∧
      (ao = ao ∧ cap = cap ∧ List.length xs = List.length xs ∧ (0 : Int) ≤ i ∧ i < (↑(List.length xs) : Int)) ∧
       (Addr.blkD ao = Addr.blkD ao ∧ Addr.offD ao = Addr.offD ao ∧ 2 = 2 ∧ Int.toNat i < List.length xs ∧ 2 = 2) ∧
        (ao = ao ∧ cap = cap ∧ List.length xs = List.length xs ∧ (0 : Int) ≤ i ∧ i < (↑(List.length xs) : Int)) ∧
         (Addr.blkD ao = Addr.blkD ao ∧ Addr.offD ao = Addr.offD ao ∧ 2 = 2 ∧ Int.toNat i < List.length xs ∧ true = true ∧ 2 = 2 ∧ 2 ≤ 2) ∧
          ∃ (e : Int × Int),
           denL [SV.int IntKind.i64 e.1, SV.int IntKind.i64 e.2] =
            denL [SV.int IntKind.i64 (List.getD xs (Int.toNat j) ((0 : Int), (0 : Int))).1, SV.int IntKind.i64 (List.getD xs (Int.toNat j) ((0 : Int), (0 : Int))).2] ∧
            (ao = ao ∧ cap = cap ∧ List.length xs = List.length (List.set xs (Int.toNat i) e) ∧ (0 : Int) ≤ j ∧ j < (↑(List.length xs) : Int)) ∧
             (Addr.blkD ao = Addr.blkD ao ∧
              Addr.offD ao = Addr.offD ao ∧
               2 = 2 ∧ Int.toNat j < List.length (List.set xs (Int.toNat i) e) ∧ true = true ∧ 2 = 2 ∧ 2 ≤ 2) ∧
              ∃ (e_1 : Int × Int),
               denL [SV.int IntKind.i64 e_1.1, SV.int IntKind.i64 e_1.2] =
                denL [SV.int IntKind.i64 (List.getD xs (Int.toNat i) ((0 : Int), (0 : Int))).1, SV.int IntKind.i64 (List.getD xs (Int.toNat i) ((0 : Int), (0 : Int))).2] ∧
                N
                 [Ent.mk (Loc.blk b) (SObj.cells (SV.vec 1 ao (List.length xs) cap :: SV.func (Fn.func f) [] [] :: rest) T),
                  Ent.mk (Loc.sl ao cap) (SObj.vecL (149 : TypeId) 2 encItI (List.set (List.set xs (Int.toNat i) e) (Int.toNat j) e_1) ((0 : Int), (0 : Int)))]
                 (SV.tuple [])) := by kernel_rfl


theorem qIppush (K : List Frm → Sy → Prop) (N : List Ent → SV → Prop) (b cap : Nat) (ao : Option Addr) (rest : List SV) (T : TypeId) (xs : List (Int × Int)) (f : FuncId) (v : Int × Int) : (run Try.prog [] false [] K (retP Try.prog Try.f137.results.toList N) 900 [.code (bodyOf Try.f137)] ⟨padTo 15 [.ptr 0 b 0, .iface 149 (.agg (encItI v))], qhG 149 2 encItI ((0 : Int), (0 : Int)) b ao cap f rest T xs⟩) = (
b = b ∧
 (true = true ∧ 2 = 2 ∧ 0 < 2 ∧ 2 ≤ 16777216) ∧
  ∀ (b_1 : Nat),
   (Ent.mk (Loc.blk b) (SObj.cells (SV.vec 1 ao (List.length xs) cap :: SV.func (Fn.func f) [] [] :: rest) T) =
    Ent.mk (Loc.blk b) (SObj.cells (SV.vec 1 ao (List.length xs) cap :: SV.func (Fn.func f) [] [] :: rest) T) ∧
    Ent.mk (Loc.sl ao cap) (SObj.vecL (149 : TypeId) 2 encItI xs ((0 : Int), (0 : Int))) = Ent.mk (Loc.sl ao cap) (SObj.vecL (149 : TypeId) 2 encItI xs ((0 : Int), (0 : Int))) ∧
     True) ∧
    (ao = ao ∧
     cap = cap ∧
      List.length xs = List.length xs ∧
       some (Addr.mk b_1 0 (@none Nat)) = some (Addr.mk b_1 0 (@none Nat)) ∧
        (149 : TypeId) = 149 ∧
         2 = 2 ∧
          2 = 2 ∧
           0 < 1 ∧ true = true ∧ (List.length xs + 1) * 16 ≤ 140737488355328 ∧ List.length xs + 1 ≤ 9223372036854775807) ∧
     ∃ (es : List (Int × Int)),
      List.length es = 1 ∧
       denL (List.flatMap encItI es) = denL [SV.int IntKind.i64 v.1, SV.int IntKind.i64 v.2] ∧
        ∀ (ao2 : Option Addr) (cap2 : Nat),
         List.length xs + 1 ≤ cap2 →
          (b = b ∧ true = true ∧ 1 = 1 ∧ 1 ≤ lenN rest + 1 + 1) ∧
           N
            [Ent.mk (Loc.blk b) (SObj.cells (SV.vec 1 ao2 (List.length xs + 1) cap2 :: SV.func (Fn.func f) [] [] :: rest) T),
             Ent.mk (Loc.sl ao2 cap2) (SObj.vecL (149 : TypeId) 2 encItI (xs ++ es) ((0 : Int), (0 : Int))),
             Ent.mk (Loc.blk b_1) (SObj.cells [SV.int IntKind.i64 v.1, SV.int IntKind.i64 v.2] 149)]
            (SV.tuple [])) := by kernel_rfl


theorem qIppop (K : List Frm → Sy → Prop) (N : List Ent → SV → Prop) (b cap : Nat) (ao : Option Addr) (rest : List SV) (T : TypeId) (xs : List (Int × Int)) (f : FuncId) : (run Try.prog [] false [] K (retP Try.prog Try.f136.results.toList N) 900 [.code (bodyOf Try.f136)] ⟨padTo 29 [.ptr 0 b 0], qhG 149 2 encItI ((0 : Int), (0 : Int)) b ao cap f rest T xs⟩) = (
b = b ∧
 b = b ∧
  (ao = ao ∧
   cap = cap ∧
    List.length xs = List.length xs ∧
     (0 : Int) ≤ IntKind.wrap IntKind.i64 ((↑(List.length xs) : Int) - (1 : Int)) ∧ IntKind.wrap IntKind.i64 ((↑(List.length xs) : Int) - (1 : Int)) < (↑(List.length xs) : Int)) ∧
   (Addr.blkD ao = Addr.blkD ao ∧
    Addr.offD ao = Addr.offD ao ∧ 2 = 2 ∧ Int.toNat (IntKind.wrap IntKind.i64 ((↑(List.length xs) : Int) - (1 : Int))) < List.length xs ∧ 2 = 2) ∧
    ∀ (b_1 : Nat),
     (b_1 = b_1 ∧ true = true ∧ 2 = 2 ∧ 2 ≤ 2) ∧
      b = b ∧
       ((0 : Int) ≤ IntKind.wrap IntKind.i64 ((↑(List.length xs) : Int) - (1 : Int)) ∧ IntKind.wrap IntKind.i64 ((↑(List.length xs) : Int) - (1 : Int)) ≤ (↑cap : Int)) ∧
        (b = b ∧ true = true ∧ 1 = 1 ∧ 1 ≤ lenN rest + 1 + 1) ∧
         (b_1 = b_1 ∧ 2 = 2) ∧
          N
           [Ent.mk (Loc.blk b)
            (SObj.cells (SV.sub 1 ao cap 2 0 (Int.toNat (IntKind.wrap IntKind.i64 ((↑(List.length xs) : Int) - (1 : Int)))) :: SV.func (Fn.func f) [] [] :: rest)
             T),
            Ent.mk (Loc.sl ao cap) (SObj.vecL (149 : TypeId) 2 encItI xs ((0 : Int), (0 : Int))),
            Ent.mk (Loc.blk b_1)
             (SObj.cells
              [SV.int IntKind.i64 (List.getD xs (Int.toNat (IntKind.wrap IntKind.i64 ((↑(List.length xs) : Int) - (1 : Int)))) ((0 : Int), (0 : Int))).1,
               SV.int IntKind.i64 (List.getD xs (Int.toNat (IntKind.wrap IntKind.i64 ((↑(List.length xs) : Int) - (1 : Int)))) ((0 : Int), (0 : Int))).2]
              149)]
           (SV.iface 149
            (SV.agg
             [SV.int IntKind.i64 (List.getD xs (Int.toNat (IntKind.wrap IntKind.i64 ((↑(List.length xs) : Int) - (1 : Int)))) ((0 : Int), (0 : Int))).1,
              SV.int IntKind.i64 (List.getD xs (Int.toNat (IntKind.wrap IntKind.i64 ((↑(List.length xs) : Int) - (1 : Int)))) ((0 : Int), (0 : Int))).2]))) := by kernel_rfl


theorem qIplen (K : List Frm → Sy → Prop) (N : List Ent → SV → Prop) (b cap : Nat) (ao : Option Addr) (rest : List SV) (T : TypeId) (xs : List (Int × Int)) (f : FuncId) : (run Try.prog [] true [] K (retP Try.prog Try.f104.results.toList N) 900 [.code (bodyOf Try.f104)] ⟨padTo 8 [.ptr 0 b 0], qhG 149 2 encItI ((0 : Int), (0 : Int)) b ao cap f rest T xs⟩) = (
b = b ∧
 N
  [Ent.mk (Loc.blk b) (SObj.cells (SV.vec 1 ao (List.length xs) cap :: SV.func (Fn.func f) [] [] :: rest) T),
   Ent.mk (Loc.sl ao cap) (SObj.vecL (149 : TypeId) 2 encItI xs ((0 : Int), (0 : Int)))]
  (SV.int IntKind.i64 (↑(List.length xs) : Int))) := by kernel_rfl
end Go.Proofs.Ytjnkfgigpapeaaa

