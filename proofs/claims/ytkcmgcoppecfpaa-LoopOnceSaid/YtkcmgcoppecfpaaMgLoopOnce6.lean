import Derived.Test.YtkcmgcoppecfpaaMgLoopOnce5
set_option linter.unusedVariables false
set_option linter.unusedSimpArgs false
set_option linter.unnecessarySimpa false
set_option maxHeartbeats 0
set_option maxRecDepth 100000
namespace Go.Proofs.Ytkcmgcoppecfpaa
open Go Go.RowKit

theorem qEless0 (K : List Frm → Sy → Prop) (N : List Ent → SV → Prop) (b cap : Nat) (ao : Option Addr) (rest : List SV) (T : TypeId) (xs : List (EV × Int)) (f : FuncId) (i j : Int) : (run Try.prog [(79, inl Try.prog [] true Try.f79 100)] true [] K (retP Try.prog Try.f224.results.toList N) 900 [.code (bodyOf Try.f224)] ⟨padTo 51 [.ptr 0 b 0, .int .i64 i, .int .i64 j], qhG 214 6 encItE ((⟨0, 0, 0, ByteArray.empty, ByteArray.empty⟩ : EV), (0 : Int)) b ao cap 79 rest T xs⟩) = (
b = b ∧
 (ao = ao ∧ cap = cap ∧ List.length xs = List.length xs ∧ (0 : Int) ≤ i ∧ i < (↑(List.length xs) : Int)) ∧
  (Addr.blkD ao = Addr.blkD ao ∧ Addr.offD ao = Addr.offD ao ∧ 6 = 6 ∧ Int.toNat i < List.length xs ∧ 6 = 6) ∧
   b = b ∧
    (ao = ao ∧ cap = cap ∧ List.length xs = List.length xs ∧ (0 : Int) ≤ j ∧ j < (↑(List.length xs) : Int)) ∧
     (Addr.blkD ao = Addr.blkD ao ∧ Addr.offD ao = Addr.offD ao ∧ 6 = 6 ∧ Int.toNat j < List.length xs ∧ 6 = 6) ∧
      (∀ (b_1 : Nat),
       (Ent.mk (Loc.blk b) (SObj.cells (SV.vec 1 ao (List.length xs) cap :: SV.func (Fn.func (79 : FuncId)) [] [] :: rest) T) =
        Ent.mk (Loc.blk b) (SObj.cells (SV.vec 1 ao (List.length xs) cap :: SV.func (Fn.func (79 : FuncId)) [] [] :: rest) T) ∧
        Ent.mk (Loc.sl ao cap) (SObj.vecL (214 : TypeId) 6 encItE xs (EV.mk (0 : Int) (0 : Int) (0 : Int) ByteArray.empty ByteArray.empty, (0 : Int))) =
         Ent.mk (Loc.sl ao cap) (SObj.vecL (214 : TypeId) 6 encItE xs (EV.mk (0 : Int) (0 : Int) (0 : Int) ByteArray.empty ByteArray.empty, (0 : Int))) ∧
         True) ∧
        ∀ (b_2 : Nat),
         (Ent.mk (Loc.blk b) (SObj.cells (SV.vec 1 ao (List.length xs) cap :: SV.func (Fn.func (79 : FuncId)) [] [] :: rest) T) =
          Ent.mk (Loc.blk b) (SObj.cells (SV.vec 1 ao (List.length xs) cap :: SV.func (Fn.func (79 : FuncId)) [] [] :: rest) T) ∧
          Ent.mk (Loc.sl ao cap) (SObj.vecL (214 : TypeId) 6 encItE xs (EV.mk (0 : Int) (0 : Int) (0 : Int) ByteArray.empty ByteArray.empty, (0 : Int))) =
           Ent.mk (Loc.sl ao cap) (SObj.vecL (214 : TypeId) 6 encItE xs (EV.mk (0 : Int) (0 : Int) (0 : Int) ByteArray.empty ByteArray.empty, (0 : Int))) ∧
           True) ∧
          (b_1 = b_1 ∧ true = true ∧ 6 = 6 ∧ 6 ≤ 6) ∧
           (Ent.mk (Loc.blk b) (SObj.cells (SV.vec 1 ao (List.length xs) cap :: SV.func (Fn.func (79 : FuncId)) [] [] :: rest) T) =
            Ent.mk (Loc.blk b) (SObj.cells (SV.vec 1 ao (List.length xs) cap :: SV.func (Fn.func (79 : FuncId)) [] [] :: rest) T) ∧
            Ent.mk (Loc.sl ao cap) (SObj.vecL (214 : TypeId) 6 encItE xs (EV.mk (0 : Int) (0 : Int) (0 : Int) ByteArray.empty ByteArray.empty, (0 : Int))) =
             Ent.mk (Loc.sl ao cap) (SObj.vecL (214 : TypeId) 6 encItE xs (EV.mk (0 : Int) (0 : Int) (0 : Int) ByteArray.empty ByteArray.empty, (0 : Int))) ∧
             True) ∧
            (b_2 = b_2 ∧ true = true ∧ 6 = 6 ∧ 6 ≤ 6) ∧
             (Ent.mk (Loc.blk b) (SObj.cells (SV.vec 1 ao (List.length xs) cap :: SV.func (Fn.func (79 : FuncId)) [] [] :: rest) T) =
              Ent.mk (Loc.blk b) (SObj.cells (SV.vec 1 ao (List.length xs) cap :: SV.func (Fn.func (79 : FuncId)) [] [] :: rest) T) ∧
              Ent.mk (Loc.sl ao cap) (SObj.vecL (214 : TypeId) 6 encItE xs (EV.mk (0 : Int) (0 : Int) (0 : Int) ByteArray.empty ByteArray.empty, (0 : Int))) =
               Ent.mk (Loc.sl ao cap) (SObj.vecL (214 : TypeId) 6 encItE xs (EV.mk (0 : Int) (0 : Int) (0 : Int) ByteArray.empty ByteArray.empty, (0 : Int))) ∧
               True) ∧
              b = b ∧
               (b_1 = b_1 ∧ 5 = 5) ∧
                (b_2 = b_2 ∧ 5 = 5) ∧
                 true = true ∧
                  true = true ∧
                   ∀ (b_3 : Nat),
                    true = true ∧
                     ∀ (b_4 : Nat),
                      b_3 = b_3 ∧
                       b_4 = b_4 ∧
                        (Ent.mk (Loc.blk b) (SObj.cells (SV.vec 1 ao (List.length xs) cap :: SV.func (Fn.func (79 : FuncId)) [] [] :: rest) T) =
                         Ent.mk (Loc.blk b) (SObj.cells (SV.vec 1 ao (List.length xs) cap :: SV.func (Fn.func (79 : FuncId)) [] [] :: rest) T) ∧
                         Ent.mk (Loc.sl ao cap)
                          (SObj.vecL (214 : TypeId) 6 encItE xs (EV.mk (0 : Int) (0 : Int) (0 : Int) ByteArray.empty ByteArray.empty, (0 : Int))) =
                          Ent.mk (Loc.sl ao cap)
                           (SObj.vecL (214 : TypeId) 6 encItE xs (EV.mk (0 : Int) (0 : Int) (0 : Int) ByteArray.empty ByteArray.empty, (0 : Int))) ∧
                          Ent.mk (Loc.blk b_1)
                           (SObj.cells
                            [SV.int IntKind.i64 (List.getD xs (Int.toNat i) (EV.mk (0 : Int) (0 : Int) (0 : Int) ByteArray.empty ByteArray.empty, (0 : Int))).1.1,
                             SV.int IntKind.i64 (List.getD xs (Int.toNat i) (EV.mk (0 : Int) (0 : Int) (0 : Int) ByteArray.empty ByteArray.empty, (0 : Int))).1.2,
                             SV.int IntKind.i64 (List.getD xs (Int.toNat i) (EV.mk (0 : Int) (0 : Int) (0 : Int) ByteArray.empty ByteArray.empty, (0 : Int))).1.3,
                             SV.str (List.getD xs (Int.toNat i) (EV.mk (0 : Int) (0 : Int) (0 : Int) ByteArray.empty ByteArray.empty, (0 : Int))).1.4,
                             SV.str (List.getD xs (Int.toNat i) (EV.mk (0 : Int) (0 : Int) (0 : Int) ByteArray.empty ByteArray.empty, (0 : Int))).1.5,
                             SV.int IntKind.i64 (List.getD xs (Int.toNat i) (EV.mk (0 : Int) (0 : Int) (0 : Int) ByteArray.empty ByteArray.empty, (0 : Int))).2]
                            214) =
                           Ent.mk (Loc.blk b_1)
                            (SObj.cells
                             [SV.int IntKind.i64 (List.getD xs (Int.toNat i) (EV.mk (0 : Int) (0 : Int) (0 : Int) ByteArray.empty ByteArray.empty, (0 : Int))).1.1,
                              SV.int IntKind.i64 (List.getD xs (Int.toNat i) (EV.mk (0 : Int) (0 : Int) (0 : Int) ByteArray.empty ByteArray.empty, (0 : Int))).1.2,
                              SV.int IntKind.i64 (List.getD xs (Int.toNat i) (EV.mk (0 : Int) (0 : Int) (0 : Int) ByteArray.empty ByteArray.empty, (0 : Int))).1.3,
                              SV.str (List.getD xs (Int.toNat i) (EV.mk (0 : Int) (0 : Int) (0 : Int) ByteArray.empty ByteArray.empty, (0 : Int))).1.4,
                              SV.str (List.getD xs (Int.toNat i) (EV.mk (0 : Int) (0 : Int) (0 : Int) ByteArray.empty ByteArray.empty, (0 : Int))).1.5,
                              SV.int IntKind.i64 (List.getD xs (Int.toNat i) (EV.mk (0 : Int) (0 : Int) (0 : Int) ByteArray.empty ByteArray.empty, (0 : Int))).2]
                             214) ∧
                           Ent.mk (Loc.blk b_2)
                            (SObj.cells
                             [SV.int IntKind.i64 (List.getD xs (Int.toNat j) (EV.mk (0 : Int) (0 : Int) (0 : Int) ByteArray.empty ByteArray.empty, (0 : Int))).1.1,
                              SV.int IntKind.i64
                               (List.getD xs (Int.toNat j) (EV.mk (0 : Int) (0 : Int) (0 : Int) ByteArray.empty ByteArray.empty, (0 : Int))).1.2,
                              SV.int IntKind.i64
                               (List.getD xs (Int.toNat j) (EV.mk (0 : Int) (0 : Int) (0 : Int) ByteArray.empty ByteArray.empty, (0 : Int))).1.3,
                              SV.str (List.getD xs (Int.toNat j) (EV.mk (0 : Int) (0 : Int) (0 : Int) ByteArray.empty ByteArray.empty, (0 : Int))).1.4,
                              SV.str (List.getD xs (Int.toNat j) (EV.mk (0 : Int) (0 : Int) (0 : Int) ByteArray.empty ByteArray.empty, (0 : Int))).1.5,
                              SV.int IntKind.i64 (List.getD xs (Int.toNat j) (EV.mk (0 : Int) (0 : Int) (0 : Int) ByteArray.empty ByteArray.empty, (0 : Int))).2]
                             214) =
                            Ent.mk (Loc.blk b_2)
                             (SObj.cells
                              [SV.int IntKind.i64 (List.getD xs (Int.toNat j) (EV.mk (0 : Int) (0 : Int) (0 : Int) ByteArray.empty ByteArray.empty, (0 : Int))).1.1,
                               SV.int IntKind.i64
                                (List.getD xs (Int.toNat j) (EV.mk (0 : Int) (0 : Int) (0 : Int) ByteArray.empty ByteArray.empty, (0 : Int))).1.2,
                               SV.int IntKind.i64
                                (List.getD xs (Int.toNat j) (EV.mk (0 : Int) (0 : Int) (0 : Int) ByteArray.empty ByteArray.empty, (0 : Int))).1.3,
                               SV.str (List.getD xs (Int.toNat j) (EV.mk (0 : Int) (0 : Int) (0 : Int) ByteArray.empty ByteArray.empty, (0 : Int))).1.4,
                               SV.str (List.getD xs (Int.toNat j) (EV.mk (0 : Int) (0 : Int) (0 : Int) ByteArray.empty ByteArray.empty, (0 : Int))).1.5,
                               SV.int IntKind.i64 (List.getD xs (Int.toNat j) (EV.mk (0 : Int) (0 : Int) (0 : Int) ByteArray.empty ByteArray.empty, (0 : Int))).2]
                              214) ∧
                            True) ∧
                         match
                          decide
                           ((List.getD xs (Int.toNat i) (EV.mk (0 : Int) (0 : Int) (0 : Int) ByteArray.empty ByteArray.empty, (0 : Int))).1.1 <
                            (List.getD xs (Int.toNat j) (EV.mk (0 : Int) (0 : Int) (0 : Int) ByteArray.empty ByteArray.empty, (0 : Int))).1.1) with
                         | true =>
                          (Ent.mk (Loc.blk b) (SObj.cells (SV.vec 1 ao (List.length xs) cap :: SV.func (Fn.func (79 : FuncId)) [] [] :: rest) T) =
                           Ent.mk (Loc.blk b) (SObj.cells (SV.vec 1 ao (List.length xs) cap :: SV.func (Fn.func (79 : FuncId)) [] [] :: rest) T) ∧
                           Ent.mk (Loc.sl ao cap)
                            (SObj.vecL (214 : TypeId) 6 encItE xs (EV.mk (0 : Int) (0 : Int) (0 : Int) ByteArray.empty ByteArray.empty, (0 : Int))) =
                            Ent.mk (Loc.sl ao cap)
                             (SObj.vecL (214 : TypeId) 6 encItE xs (EV.mk (0 : Int) (0 : Int) (0 : Int) ByteArray.empty ByteArray.empty, (0 : Int))) ∧
                            Ent.mk (Loc.blk b_1)
                             (SObj.cells
                              [SV.int IntKind.i64
                               (List.getD xs (Int.toNat i) (EV.mk (0 : Int) (0 : Int) (0 : Int) ByteArray.empty ByteArray.empty, (0 : Int))).1.1,
                               SV.int IntKind.i64
                                (List.getD xs (Int.toNat i) (EV.mk (0 : Int) (0 : Int) (0 : Int) ByteArray.empty ByteArray.empty, (0 : Int))).1.2,
                               SV.int IntKind.i64
                                (List.getD xs (Int.toNat i) (EV.mk (0 : Int) (0 : Int) (0 : Int) ByteArray.empty ByteArray.empty, (0 : Int))).1.3,
                               SV.str (List.getD xs (Int.toNat i) (EV.mk (0 : Int) (0 : Int) (0 : Int) ByteArray.empty ByteArray.empty, (0 : Int))).1.4,
                               SV.str (List.getD xs (Int.toNat i) (EV.mk (0 : Int) (0 : Int) (0 : Int) ByteArray.empty ByteArray.empty, (0 : Int))).1.5,
                               SV.int IntKind.i64
                                (List.getD xs (Int.toNat i) (EV.mk (0 : Int) (0 : Int) (0 : Int) ByteArray.empty ByteArray.empty, (0 : Int))).2]
                              214) =
                             Ent.mk (Loc.blk b_1)
                              (SObj.cells
                               [SV.int IntKind.i64
                                (List.getD xs (Int.toNat i) (EV.mk (0 : Int) (0 : Int) (0 : Int) ByteArray.empty ByteArray.empty, (0 : Int))).1.1,
                                SV.int IntKind.i64
                                 (List.getD xs (Int.toNat i) (EV.mk (0 : Int) (0 : Int) (0 : Int) ByteArray.empty ByteArray.empty, (0 : Int))).1.2,
                                SV.int IntKind.i64
                                 (List.getD xs (Int.toNat i) (EV.mk (0 : Int) (0 : Int) (0 : Int) ByteArray.empty ByteArray.empty, (0 : Int))).1.3,
                                SV.str (List.getD xs (Int.toNat i) (EV.mk (0 : Int) (0 : Int) (0 : Int) ByteArray.empty ByteArray.empty, (0 : Int))).1.4,
                                SV.str (List.getD xs (Int.toNat i) (EV.mk (0 : Int) (0 : Int) (0 : Int) ByteArray.empty ByteArray.empty, (0 : Int))).1.5,
                                SV.int IntKind.i64
                                 (List.getD xs (Int.toNat i) (EV.mk (0 : Int) (0 : Int) (0 : Int) ByteArray.empty ByteArray.empty, (0 : Int))).2]
                               214) ∧
                             Ent.mk (Loc.blk b_2)
                              (SObj.cells
                               [SV.int IntKind.i64
                                (List.getD xs (Int.toNat j) (EV.mk (0 : Int) (0 : Int) (0 : Int) ByteArray.empty ByteArray.empty, (0 : Int))).1.1,
                                SV.int IntKind.i64
                                 (List.getD xs (Int.toNat j) (EV.mk (0 : Int) (0 : Int) (0 : Int) ByteArray.empty ByteArray.empty, (0 : Int))).1.2,
                                SV.int IntKind.i64
                                 (List.getD xs (Int.toNat j) (EV.mk (0 : Int) (0 : Int) (0 : Int) ByteArray.empty ByteArray.empty, (0 : Int))).1.3,
                                SV.str (List.getD xs (Int.toNat j) (EV.mk (0 : Int) (0 : Int) (0 : Int) ByteArray.empty ByteArray.empty, (0 : Int))).1.4,
                                SV.str (List.getD xs (Int.toNat j) (EV.mk (0 : Int) (0 : Int) (0 : Int) ByteArray.empty ByteArray.empty, (0 : Int))).1.5,
                                SV.int IntKind.i64
                                 (List.getD xs (Int.toNat j) (EV.mk (0 : Int) (0 : Int) (0 : Int) ByteArray.empty ByteArray.empty, (0 : Int))).2]
                               214) =
                              Ent.mk (Loc.blk b_2)
                               (SObj.cells
                                [SV.int IntKind.i64
                                 (List.getD xs (Int.toNat j) (EV.mk (0 : Int) (0 : Int) (0 : Int) ByteArray.empty ByteArray.empty, (0 : Int))).1.1,
                                 SV.int IntKind.i64
                                  (List.getD xs (Int.toNat j) (EV.mk (0 : Int) (0 : Int) (0 : Int) ByteArray.empty ByteArray.empty, (0 : Int))).1.2,
                                 SV.int IntKind.i64
                                  (List.getD xs (Int.toNat j) (EV.mk (0 : Int) (0 : Int) (0 : Int) ByteArray.empty ByteArray.empty, (0 : Int))).1.3,
                                 SV.str (List.getD xs (Int.toNat j) (EV.mk (0 : Int) (0 : Int) (0 : Int) ByteArray.empty ByteArray.empty, (0 : Int))).1.4,
                                 SV.str (List.getD xs (Int.toNat j) (EV.mk (0 : Int) (0 : Int) (0 : Int) ByteArray.empty ByteArray.empty, (0 : Int))).1.5,
                                 SV.int IntKind.i64
                                  (List.getD xs (Int.toNat j) (EV.mk (0 : Int) (0 : Int) (0 : Int) ByteArray.empty ByteArray.empty, (0 : Int))).2]
                                214) ∧
                              True) ∧
                           true = true ∧
                            true = true ∧
                             true = true ∧
                              true = true ∧
                               true = true ∧
                                N
                                 [Ent.mk (Loc.blk b) (SObj.cells (SV.vec 1 ao (List.length xs) cap :: SV.func (Fn.func (79 : FuncId)) [] [] :: rest) T),
                                  Ent.mk (Loc.sl ao cap)
                                   (SObj.vecL (214 : TypeId) 6 encItE xs (EV.mk (0 : Int) (0 : Int) (0 : Int) ByteArray.empty ByteArray.empty, (0 : Int))),
                                  Ent.mk (Loc.blk b_1)
                                   (SObj.cells
                                    [SV.int IntKind.i64
                                     (List.getD xs (Int.toNat i) (EV.mk (0 : Int) (0 : Int) (0 : Int) ByteArray.empty ByteArray.empty, (0 : Int))).1.1,
                                     SV.int IntKind.i64
                                      (List.getD xs (Int.toNat i) (EV.mk (0 : Int) (0 : Int) (0 : Int) ByteArray.empty ByteArray.empty, (0 : Int))).1.2,
                                     SV.int IntKind.i64
                                      (List.getD xs (Int.toNat i) (EV.mk (0 : Int) (0 : Int) (0 : Int) ByteArray.empty ByteArray.empty, (0 : Int))).1.3,
                                     SV.str (List.getD xs (Int.toNat i) (EV.mk (0 : Int) (0 : Int) (0 : Int) ByteArray.empty ByteArray.empty, (0 : Int))).1.4,
                                     SV.str (List.getD xs (Int.toNat i) (EV.mk (0 : Int) (0 : Int) (0 : Int) ByteArray.empty ByteArray.empty, (0 : Int))).1.5,
                                     SV.int IntKind.i64
                                      (List.getD xs (Int.toNat i) (EV.mk (0 : Int) (0 : Int) (0 : Int) ByteArray.empty ByteArray.empty, (0 : Int))).2]
                                    214),
                                  Ent.mk (Loc.blk b_2)
                                   (SObj.cells
                                    [SV.int IntKind.i64
                                     (List.getD xs (Int.toNat j) (EV.mk (0 : Int) (0 : Int) (0 : Int) ByteArray.empty ByteArray.empty, (0 : Int))).1.1,
                                     SV.int IntKind.i64
                                      (List.getD xs (Int.toNat j) (EV.mk (0 : Int) (0 : Int) (0 : Int) ByteArray.empty ByteArray.empty, (0 : Int))).1.2,
                                     SV.int IntKind.i64
                                      (List.getD xs (Int.toNat j) (EV.mk (0 : Int) (0 : Int) (0 : Int) ByteArray.empty ByteArray.empty, (0 : Int))).1.3,
                                     SV.str (List.getD xs (Int.toNat j) (EV.mk (0 : Int) (0 : Int) (0 : Int) ByteArray.empty ByteArray.empty, (0 : Int))).1.4,
                                     SV.str (List.getD xs (Int.toNat j) (EV.mk (0 : Int) (0 : Int) (0 : Int) ByteArray.empty ByteArray.empty, (0 : Int))).1.5,
                                     SV.int IntKind.i64
                                      (List.getD xs (Int.toNat j) (EV.mk (0 : Int) (0 : Int) (0 : Int) ByteArray.empty ByteArray.empty, (0 : Int))).2]
                                    214),
                                  Ent.mk (Loc.blk b_3)
                                   (SObj.cells
                                    [SV.int IntKind.i64
                                     (List.getD xs (Int.toNat i) (EV.mk (0 : Int) (0 : Int) (0 : Int) ByteArray.empty ByteArray.empty, (0 : Int))).1.1,
                                     SV.int IntKind.i64
                                      (List.getD xs (Int.toNat i) (EV.mk (0 : Int) (0 : Int) (0 : Int) ByteArray.empty ByteArray.empty, (0 : Int))).1.2,
                                     SV.int IntKind.i64
                                      (List.getD xs (Int.toNat i) (EV.mk (0 : Int) (0 : Int) (0 : Int) ByteArray.empty ByteArray.empty, (0 : Int))).1.3,
                                     SV.str (List.getD xs (Int.toNat i) (EV.mk (0 : Int) (0 : Int) (0 : Int) ByteArray.empty ByteArray.empty, (0 : Int))).1.4,
                                     SV.str (List.getD xs (Int.toNat i) (EV.mk (0 : Int) (0 : Int) (0 : Int) ByteArray.empty ByteArray.empty, (0 : Int))).1.5]
                                    79),
                                  Ent.mk (Loc.blk b_4)
                                   (SObj.cells
                                    [SV.int IntKind.i64
                                     (List.getD xs (Int.toNat j) (EV.mk (0 : Int) (0 : Int) (0 : Int) ByteArray.empty ByteArray.empty, (0 : Int))).1.1,
                                     SV.int IntKind.i64
                                      (List.getD xs (Int.toNat j) (EV.mk (0 : Int) (0 : Int) (0 : Int) ByteArray.empty ByteArray.empty, (0 : Int))).1.2,
                                     SV.int IntKind.i64
                                      (List.getD xs (Int.toNat j) (EV.mk (0 : Int) (0 : Int) (0 : Int) ByteArray.empty ByteArray.empty, (0 : Int))).1.3,
                                     SV.str (List.getD xs (Int.toNat j) (EV.mk (0 : Int) (0 : Int) (0 : Int) ByteArray.empty ByteArray.empty, (0 : Int))).1.4,
                                     SV.str (List.getD xs (Int.toNat j) (EV.mk (0 : Int) (0 : Int) (0 : Int) ByteArray.empty ByteArray.empty, (0 : Int))).1.5]
                                    79)]
                                 (SV.bool true)
                         | false =>
                          b = b ∧
                           (b_2 = b_2 ∧ 5 = 5) ∧
                            (b_1 = b_1 ∧ 5 = 5) ∧
                             true = true ∧
                              true = true ∧
                               ∀ (b_5 : Nat),
                                true = true ∧
                                 ∀ (b_6 : Nat),
                                  b_5 = b_5 ∧
                                   b_6 = b_6 ∧
                                    (Ent.mk (Loc.blk b)
                                     (SObj.cells (SV.vec 1 ao (List.length xs) cap :: SV.func (Fn.func (79 : FuncId)) [] [] :: rest) T) =
                                     Ent.mk (Loc.blk b)
                                      (SObj.cells (SV.vec 1 ao (List.length xs) cap :: SV.func (Fn.func (79 : FuncId)) [] [] :: rest) T) ∧
                                     Ent.mk (Loc.sl ao cap)
                                      (SObj.vecL (214 : TypeId) 6 encItE xs
                                       (EV.mk (0 : Int) (0 : Int) (0 : Int) ByteArray.empty ByteArray.empty, (0 : Int))) =
                                      Ent.mk (Loc.sl ao cap)
                                       (SObj.vecL (214 : TypeId) 6 encItE xs
                                        (EV.mk (0 : Int) (0 : Int) (0 : Int) ByteArray.empty ByteArray.empty, (0 : Int))) ∧
                                      Ent.mk (Loc.blk b_1)
                                       (SObj.cells
                                        [SV.int IntKind.i64
                                         (List.getD xs (Int.toNat i)
                                          (EV.mk (0 : Int) (0 : Int) (0 : Int) ByteArray.empty ByteArray.empty, (0 : Int))).1.1,
                                         SV.int IntKind.i64
                                          (List.getD xs (Int.toNat i)
                                           (EV.mk (0 : Int) (0 : Int) (0 : Int) ByteArray.empty ByteArray.empty, (0 : Int))).1.2,
                                         SV.int IntKind.i64
                                          (List.getD xs (Int.toNat i)
                                           (EV.mk (0 : Int) (0 : Int) (0 : Int) ByteArray.empty ByteArray.empty, (0 : Int))).1.3,
                                         SV.str
                                          (List.getD xs (Int.toNat i)
                                           (EV.mk (0 : Int) (0 : Int) (0 : Int) ByteArray.empty ByteArray.empty, (0 : Int))).1.4,
                                         SV.str
                                          (List.getD xs (Int.toNat i)
                                           (EV.mk (0 : Int) (0 : Int) (0 : Int) ByteArray.empty ByteArray.empty, (0 : Int))).1.5,
                                         SV.int IntKind.i64
                                          (List.getD xs (Int.toNat i)
                                           (EV.mk (0 : Int) (0 : Int) (0 : Int) ByteArray.empty ByteArray.empty, (0 : Int))).2]
                                        214) =
                                       Ent.mk (Loc.blk b_1)
                                        (SObj.cells
                                         [SV.int IntKind.i64
                                          (List.getD xs (Int.toNat i)
                                           (EV.mk (0 : Int) (0 : Int) (0 : Int) ByteArray.empty ByteArray.empty, (0 : Int))).1.1,
                                          SV.int IntKind.i64
                                           (List.getD xs (Int.toNat i)
                                            (EV.mk (0 : Int) (0 : Int) (0 : Int) ByteArray.empty ByteArray.empty, (0 : Int))).1.2,
                                          SV.int IntKind.i64
                                           (List.getD xs (Int.toNat i)
                                            (EV.mk (0 : Int) (0 : Int) (0 : Int) ByteArray.empty ByteArray.empty, (0 : Int))).1.3,
                                          SV.str
                                           (List.getD xs (Int.toNat i)
                                            (EV.mk (0 : Int) (0 : Int) (0 : Int) ByteArray.empty ByteArray.empty, (0 : Int))).1.4,
                                          SV.str
                                           (List.getD xs (Int.toNat i)
                                            (EV.mk (0 : Int) (0 : Int) (0 : Int) ByteArray.empty ByteArray.empty, (0 : Int))).1.5,
                                          SV.int IntKind.i64
                                           (List.getD xs (Int.toNat i)
                                            (EV.mk (0 : Int) (0 : Int) (0 : Int) ByteArray.empty ByteArray.empty, (0 : Int))).2]
                                         214) ∧
                                       Ent.mk (Loc.blk b_2)
                                        (SObj.cells
                                         [SV.int IntKind.i64
                                          (List.getD xs (Int.toNat j)
                                           (EV.mk (0 : Int) (0 : Int) (0 : Int) ByteArray.empty ByteArray.empty, (0 : Int))).1.1,
                                          SV.int IntKind.i64
                                           (List.getD xs (Int.toNat j)
                                            (EV.mk (0 : Int) (0 : Int) (0 : Int) ByteArray.empty ByteArray.empty, (0 : Int))).1.2,
                                          SV.int IntKind.i64
                                           (List.getD xs (Int.toNat j)
                                            (EV.mk (0 : Int) (0 : Int) (0 : Int) ByteArray.empty ByteArray.empty, (0 : Int))).1.3,
                                          SV.str
                                           (List.getD xs (Int.toNat j)
                                            (EV.mk (0 : Int) (0 : Int) (0 : Int) ByteArray.empty ByteArray.empty, (0 : Int))).1.4,
                                          SV.str
                                           (List.getD xs (Int.toNat j)
                                            (EV.mk (0 : Int) (0 : Int) (0 : Int) ByteArray.empty ByteArray.empty, (0 : Int))).1.5,
                                          SV.int IntKind.i64
                                           (List.getD xs (Int.toNat j)
                                            (EV.mk (0 : Int) (0 : Int) (0 : Int) ByteArray.empty ByteArray.empty, (0 : Int))).2]
                                         214) =
                                        Ent.mk (Loc.blk b_2)
                                         (SObj.cells
                                          [SV.int IntKind.i64
                                           (List.getD xs (Int.toNat j)
                                            (EV.mk (0 : Int) (0 : Int) (0 : Int) ByteArray.empty ByteArray.empty, (0 : Int))).1.1,
                                           SV.int IntKind.i64
                                            (List.getD xs (Int.toNat j)
                                             (EV.mk (0 : Int) (0 : Int) (0 : Int) ByteArray.empty ByteArray.empty, (0 : Int))).1.2,
                                           SV.int IntKind.i64
                                            (List.getD xs (Int.toNat j)
                                             (EV.mk (0 : Int) (0 : Int) (0 : Int) ByteArray.empty ByteArray.empty, (0 : Int))).1.3,
                                           SV.str
                                            (List.getD xs (Int.toNat j)
                                             (EV.mk (0 : Int) (0 : Int) (0 : Int) ByteArray.empty ByteArray.empty, (0 : Int))).1.4,
                                           SV.str
                                            (List.getD xs (Int.toNat j)
                                             (EV.mk (0 : Int) (0 : Int) (0 : Int) ByteArray.empty ByteArray.empty, (0 : Int))).1.5,
                                           SV.int IntKind.i64
                                            (List.getD xs (Int.toNat j)
                                             (EV.mk (0 : Int) (0 : Int) (0 : Int) ByteArray.empty ByteArray.empty, (0 : Int))).2]
                                          214) ∧
                                        True) ∧
                                     match
                                      !decide
                                       ((List.getD xs (Int.toNat j) (EV.mk (0 : Int) (0 : Int) (0 : Int) ByteArray.empty ByteArray.empty, (0 : Int))).1.1 <
                                        (List.getD xs (Int.toNat i)
                                         (EV.mk (0 : Int) (0 : Int) (0 : Int) ByteArray.empty ByteArray.empty, (0 : Int))).1.1) with
                                     | true =>
                                      b_1 = b_1 ∧
                                       b_2 = b_2 ∧
                                        N
                                         [Ent.mk (Loc.blk b)
                                          (SObj.cells (SV.vec 1 ao (List.length xs) cap :: SV.func (Fn.func (79 : FuncId)) [] [] :: rest) T),
                                          Ent.mk (Loc.sl ao cap)
                                           (SObj.vecL (214 : TypeId) 6 encItE xs
                                            (EV.mk (0 : Int) (0 : Int) (0 : Int) ByteArray.empty ByteArray.empty, (0 : Int))),
                                          Ent.mk (Loc.blk b_1)
                                           (SObj.cells
                                            [SV.int IntKind.i64
                                             (List.getD xs (Int.toNat i)
                                              (EV.mk (0 : Int) (0 : Int) (0 : Int) ByteArray.empty ByteArray.empty, (0 : Int))).1.1,
                                             SV.int IntKind.i64
                                              (List.getD xs (Int.toNat i)
                                               (EV.mk (0 : Int) (0 : Int) (0 : Int) ByteArray.empty ByteArray.empty, (0 : Int))).1.2,
                                             SV.int IntKind.i64
                                              (List.getD xs (Int.toNat i)
                                               (EV.mk (0 : Int) (0 : Int) (0 : Int) ByteArray.empty ByteArray.empty, (0 : Int))).1.3,
                                             SV.str
                                              (List.getD xs (Int.toNat i)
                                               (EV.mk (0 : Int) (0 : Int) (0 : Int) ByteArray.empty ByteArray.empty, (0 : Int))).1.4,
                                             SV.str
                                              (List.getD xs (Int.toNat i)
                                               (EV.mk (0 : Int) (0 : Int) (0 : Int) ByteArray.empty ByteArray.empty, (0 : Int))).1.5,
                                             SV.int IntKind.i64
                                              (List.getD xs (Int.toNat i)
                                               (EV.mk (0 : Int) (0 : Int) (0 : Int) ByteArray.empty ByteArray.empty, (0 : Int))).2]
                                            214),
                                          Ent.mk (Loc.blk b_2)
                                           (SObj.cells
                                            [SV.int IntKind.i64
                                             (List.getD xs (Int.toNat j)
                                              (EV.mk (0 : Int) (0 : Int) (0 : Int) ByteArray.empty ByteArray.empty, (0 : Int))).1.1,
                                             SV.int IntKind.i64
                                              (List.getD xs (Int.toNat j)
                                               (EV.mk (0 : Int) (0 : Int) (0 : Int) ByteArray.empty ByteArray.empty, (0 : Int))).1.2,
                                             SV.int IntKind.i64
                                              (List.getD xs (Int.toNat j)
                                               (EV.mk (0 : Int) (0 : Int) (0 : Int) ByteArray.empty ByteArray.empty, (0 : Int))).1.3,
                                             SV.str
                                              (List.getD xs (Int.toNat j)
                                               (EV.mk (0 : Int) (0 : Int) (0 : Int) ByteArray.empty ByteArray.empty, (0 : Int))).1.4,
                                             SV.str
                                              (List.getD xs (Int.toNat j)
                                               (EV.mk (0 : Int) (0 : Int) (0 : Int) ByteArray.empty ByteArray.empty, (0 : Int))).1.5,
                                             SV.int IntKind.i64
                                              (List.getD xs (Int.toNat j)
                                               (EV.mk (0 : Int) (0 : Int) (0 : Int) ByteArray.empty ByteArray.empty, (0 : Int))).2]
                                            214),
                                          Ent.mk (Loc.blk b_3)
                                           (SObj.cells
                                            [SV.int IntKind.i64
                                             (List.getD xs (Int.toNat i)
                                              (EV.mk (0 : Int) (0 : Int) (0 : Int) ByteArray.empty ByteArray.empty, (0 : Int))).1.1,
                                             SV.int IntKind.i64
                                              (List.getD xs (Int.toNat i)
                                               (EV.mk (0 : Int) (0 : Int) (0 : Int) ByteArray.empty ByteArray.empty, (0 : Int))).1.2,
                                             SV.int IntKind.i64
                                              (List.getD xs (Int.toNat i)
                                               (EV.mk (0 : Int) (0 : Int) (0 : Int) ByteArray.empty ByteArray.empty, (0 : Int))).1.3,
                                             SV.str
                                              (List.getD xs (Int.toNat i)
                                               (EV.mk (0 : Int) (0 : Int) (0 : Int) ByteArray.empty ByteArray.empty, (0 : Int))).1.4,
                                             SV.str
                                              (List.getD xs (Int.toNat i)
                                               (EV.mk (0 : Int) (0 : Int) (0 : Int) ByteArray.empty ByteArray.empty, (0 : Int))).1.5]
                                            79),
                                          Ent.mk (Loc.blk b_4)
                                           (SObj.cells
                                            [SV.int IntKind.i64
                                             (List.getD xs (Int.toNat j)
                                              (EV.mk (0 : Int) (0 : Int) (0 : Int) ByteArray.empty ByteArray.empty, (0 : Int))).1.1,
                                             SV.int IntKind.i64
                                              (List.getD xs (Int.toNat j)
                                               (EV.mk (0 : Int) (0 : Int) (0 : Int) ByteArray.empty ByteArray.empty, (0 : Int))).1.2,
                                             SV.int IntKind.i64
                                              (List.getD xs (Int.toNat j)
                                               (EV.mk (0 : Int) (0 : Int) (0 : Int) ByteArray.empty ByteArray.empty, (0 : Int))).1.3,
                                             SV.str
                                              (List.getD xs (Int.toNat j)
                                               (EV.mk (0 : Int) (0 : Int) (0 : Int) ByteArray.empty ByteArray.empty, (0 : Int))).1.4,
                                             SV.str
                                              (List.getD xs (Int.toNat j)
                                               (EV.mk (0 : Int) (0 : Int) (0 : Int) ByteArray.empty ByteArray.empty, (0 : Int))).1.5]
                                            79),
                                          Ent.mk (Loc.blk b_5)
                                           (SObj.cells
                                            [SV.int IntKind.i64
                                             (List.getD xs (Int.toNat j)
                                              (EV.mk (0 : Int) (0 : Int) (0 : Int) ByteArray.empty ByteArray.empty, (0 : Int))).1.1,
                                             SV.int IntKind.i64
                                              (List.getD xs (Int.toNat j)
                                               (EV.mk (0 : Int) (0 : Int) (0 : Int) ByteArray.empty ByteArray.empty, (0 : Int))).1.2,
                                             SV.int IntKind.i64
                                              (List.getD xs (Int.toNat j)
                                               (EV.mk (0 : Int) (0 : Int) (0 : Int) ByteArray.empty ByteArray.empty, (0 : Int))).1.3,
                                             SV.str
                                              (List.getD xs (Int.toNat j)
                                               (EV.mk (0 : Int) (0 : Int) (0 : Int) ByteArray.empty ByteArray.empty, (0 : Int))).1.4,
                                             SV.str
                                              (List.getD xs (Int.toNat j)
                                               (EV.mk (0 : Int) (0 : Int) (0 : Int) ByteArray.empty ByteArray.empty, (0 : Int))).1.5]
                                            79),
                                          Ent.mk (Loc.blk b_6)
                                           (SObj.cells
                                            [SV.int IntKind.i64
                                             (List.getD xs (Int.toNat i)
                                              (EV.mk (0 : Int) (0 : Int) (0 : Int) ByteArray.empty ByteArray.empty, (0 : Int))).1.1,
                                             SV.int IntKind.i64
                                              (List.getD xs (Int.toNat i)
                                               (EV.mk (0 : Int) (0 : Int) (0 : Int) ByteArray.empty ByteArray.empty, (0 : Int))).1.2,
                                             SV.int IntKind.i64
                                              (List.getD xs (Int.toNat i)
                                               (EV.mk (0 : Int) (0 : Int) (0 : Int) ByteArray.empty ByteArray.empty, (0 : Int))).1.3,
                                             SV.str
                                              (List.getD xs (Int.toNat i)
                                               (EV.mk (0 : Int) (0 : Int) (0 : Int) ByteArray.empty ByteArray.empty, (0 : Int))).1.4,
                                             SV.str
                                              (List.getD xs (Int.toNat i)
                                               (EV.mk (0 : Int) (0 : Int) (0 : Int) ByteArray.empty ByteArray.empty, (0 : Int))).1.5]
                                            79)]
                                         (SV.bool
                                          (decide
                                           ((List.getD xs (Int.toNat i)
                                            (EV.mk (0 : Int) (0 : Int) (0 : Int) ByteArray.empty ByteArray.empty, (0 : Int))).2 <
                                            (List.getD xs (Int.toNat j)
                                             (EV.mk (0 : Int) (0 : Int) (0 : Int) ByteArray.empty ByteArray.empty, (0 : Int))).2)))
                                     | false =>
                                      N
                                       [Ent.mk (Loc.blk b)
                                        (SObj.cells (SV.vec 1 ao (List.length xs) cap :: SV.func (Fn.func (79 : FuncId)) [] [] :: rest) T),
                                        Ent.mk (Loc.sl ao cap)
                                         (SObj.vecL (214 : TypeId) 6 encItE xs
                                          (EV.mk (0 : Int) (0 : Int) (0 : Int) ByteArray.empty ByteArray.empty, (0 : Int))),
                                        Ent.mk (Loc.blk b_1)
                                         (SObj.cells
                                          [SV.int IntKind.i64
                                           (List.getD xs (Int.toNat i)
                                            (EV.mk (0 : Int) (0 : Int) (0 : Int) ByteArray.empty ByteArray.empty, (0 : Int))).1.1,
                                           SV.int IntKind.i64
                                            (List.getD xs (Int.toNat i)
                                             (EV.mk (0 : Int) (0 : Int) (0 : Int) ByteArray.empty ByteArray.empty, (0 : Int))).1.2,
                                           SV.int IntKind.i64
                                            (List.getD xs (Int.toNat i)
                                             (EV.mk (0 : Int) (0 : Int) (0 : Int) ByteArray.empty ByteArray.empty, (0 : Int))).1.3,
                                           SV.str
                                            (List.getD xs (Int.toNat i)
                                             (EV.mk (0 : Int) (0 : Int) (0 : Int) ByteArray.empty ByteArray.empty, (0 : Int))).1.4,
                                           SV.str
                                            (List.getD xs (Int.toNat i)
                                             (EV.mk (0 : Int) (0 : Int) (0 : Int) ByteArray.empty ByteArray.empty, (0 : Int))).1.5,
                                           SV.int IntKind.i64
                                            (List.getD xs (Int.toNat i)
                                             (EV.mk (0 : Int) (0 : Int) (0 : Int) ByteArray.empty ByteArray.empty, (0 : Int))).2]
                                          214),
                                        Ent.mk (Loc.blk b_2)
                                         (SObj.cells
                                          [SV.int IntKind.i64
                                           (List.getD xs (Int.toNat j)
                                            (EV.mk (0 : Int) (0 : Int) (0 : Int) ByteArray.empty ByteArray.empty, (0 : Int))).1.1,
                                           SV.int IntKind.i64
                                            (List.getD xs (Int.toNat j)
                                             (EV.mk (0 : Int) (0 : Int) (0 : Int) ByteArray.empty ByteArray.empty, (0 : Int))).1.2,
                                           SV.int IntKind.i64
                                            (List.getD xs (Int.toNat j)
                                             (EV.mk (0 : Int) (0 : Int) (0 : Int) ByteArray.empty ByteArray.empty, (0 : Int))).1.3,
                                           SV.str
                                            (List.getD xs (Int.toNat j)
                                             (EV.mk (0 : Int) (0 : Int) (0 : Int) ByteArray.empty ByteArray.empty, (0 : Int))).1.4,
                                           SV.str
                                            (List.getD xs (Int.toNat j)
                                             (EV.mk (0 : Int) (0 : Int) (0 : Int) ByteArray.empty ByteArray.empty, (0 : Int))).1.5,
                                           SV.int IntKind.i64
                                            (List.getD xs (Int.toNat j)
                                             (EV.mk (0 : Int) (0 : Int) (0 : Int) ByteArray.empty ByteArray.empty, (0 : Int))).2]
                                          214),
                                        Ent.mk (Loc.blk b_3)
                                         (SObj.cells
                                          [SV.int IntKind.i64
                                           (List.getD xs (Int.toNat i)
                                            (EV.mk (0 : Int) (0 : Int) (0 : Int) ByteArray.empty ByteArray.empty, (0 : Int))).1.1,
                                           SV.int IntKind.i64
                                            (List.getD xs (Int.toNat i)
                                             (EV.mk (0 : Int) (0 : Int) (0 : Int) ByteArray.empty ByteArray.empty, (0 : Int))).1.2,
                                           SV.int IntKind.i64
                                            (List.getD xs (Int.toNat i)
                                             (EV.mk (0 : Int) (0 : Int) (0 : Int) ByteArray.empty ByteArray.empty, (0 : Int))).1.3,
                                           SV.str
                                            (List.getD xs (Int.toNat i)
                                             (EV.mk (0 : Int) (0 : Int) (0 : Int) ByteArray.empty ByteArray.empty, (0 : Int))).1.4,
                                           SV.str
                                            (List.getD xs (Int.toNat i)
                                             (EV.mk (0 : Int) (0 : Int) (0 : Int) ByteArray.empty ByteArray.empty, (0 : Int))).1.5]
                                          79),
                                        Ent.mk (Loc.blk b_4)
                                         (SObj.cells
                                          [SV.int IntKind.i64
                                           (List.getD xs (Int.toNat j)
                                            (EV.mk (0 : Int) (0 : Int) (0 : Int) ByteArray.empty ByteArray.empty, (0 : Int))).1.1,
                                           SV.int IntKind.i64
                                            (List.getD xs (Int.toNat j)
                                             (EV.mk (0 : Int) (0 : Int) (0 : Int) ByteArray.empty ByteArray.empty, (0 : Int))).1.2,
                                           SV.int IntKind.i64
                                            (List.getD xs (Int.toNat j)
                                             (EV.mk (0 : Int) (0 : Int) (0 : Int) ByteArray.empty ByteArray.empty, (0 : Int))).1.3,
                                           SV.str
                                            (List.getD xs (Int.toNat j)
                                             (EV.mk (0 : Int) (0 : Int) (0 : Int) ByteArray.empty ByteArray.empty, (0 : Int))).1.4,
                                           SV.str
                                            (List.getD xs (Int.toNat j)
                                             (EV.mk (0 : Int) (0 : Int) (0 : Int) ByteArray.empty ByteArray.empty, (0 : Int))).1.5]
                                          79),
                                        Ent.mk (Loc.blk b_5)
                                         (SObj.cells
                                          [SV.int IntKind.i64
                                           (List.getD xs (Int.toNat j)
                                            (EV.mk (0 : Int) (0 : Int) (0 : Int) ByteArray.empty ByteArray.empty, (0 : Int))).1.1,
                                           SV.int IntKind.i64
                                            (List.getD xs (Int.toNat j)
                                             (EV.mk (0 : Int) (0 : Int) (0 : Int) ByteArray.empty ByteArray.empty, (0 : Int))).1.2,
                                           SV.int IntKind.i64
                                            (List.getD xs (Int.toNat j)
                                             (EV.mk (0 : Int) (0 : Int) (0 : Int) ByteArray.empty ByteArray.empty, (0 : Int))).1.3,
                                           SV.str
                                            (List.getD xs (Int.toNat j)
                                             (EV.mk (0 : Int) (0 : Int) (0 : Int) ByteArray.empty ByteArray.empty, (0 : Int))).1.4,
                                           SV.str
                                            (List.getD xs (Int.toNat j)
                                             (EV.mk (0 : Int) (0 : Int) (0 : Int) ByteArray.empty ByteArray.empty, (0 : Int))).1.5]
                                          79),
                                        Ent.mk (Loc.blk b_6)
                                         (SObj.cells
                                          [SV.int IntKind.i64
                                           (List.getD xs (Int.toNat i)
                                            (EV.mk (0 : Int) (0 : Int) (0 : Int) ByteArray.empty ByteArray.empty, (0 : Int))).1.1,
                                           SV.int IntKind.i64
                                            (List.getD xs (Int.toNat i)
                                             (EV.mk (0 : Int) (0 : Int) (0 : Int) ByteArray.empty ByteArray.empty, (0 : Int))).1.2,
                                           SV.int IntKind.i64
                                            (List.getD xs (Int.toNat i)
                                             (EV.mk (0 : Int) (0 : Int) (0 : Int) ByteArray.empty ByteArray.empty, (0 : Int))).1.3,
                                           SV.str
                                            (List.getD xs (Int.toNat i)
                                             (EV.mk (0 : Int) (0 : Int) (0 : Int) ByteArray.empty ByteArray.empty, (0 : Int))).1.4,
                                           SV.str
                                            (List.getD xs (Int.toNat i)
                                             (EV.mk (0 : Int) (0 : Int) (0 : Int) ByteArray.empty ByteArray.empty, (0 : Int))).1.5]
                                          79)]
                                       (SV.bool false)) ∧
       ∀ (b_1 : Nat),
        (Ent.mk (Loc.blk b) (SObj.cells (SV.vec 1 ao (List.length xs) cap :: SV.func (Fn.func (79 : FuncId)) [] [] :: rest) T) =
         Ent.mk (Loc.blk b) (SObj.cells (SV.vec 1 ao (List.length xs) cap :: SV.func (Fn.func (79 : FuncId)) [] [] :: rest) T) ∧
         Ent.mk (Loc.sl ao cap) (SObj.vecL (214 : TypeId) 6 encItE xs (EV.mk (0 : Int) (0 : Int) (0 : Int) ByteArray.empty ByteArray.empty, (0 : Int))) =
          Ent.mk (Loc.sl ao cap) (SObj.vecL (214 : TypeId) 6 encItE xs (EV.mk (0 : Int) (0 : Int) (0 : Int) ByteArray.empty ByteArray.empty, (0 : Int))) ∧
          True) ∧
         ∀ (b_2 : Nat),
          (Ent.mk (Loc.blk b) (SObj.cells (SV.vec 1 ao (List.length xs) cap :: SV.func (Fn.func (79 : FuncId)) [] [] :: rest) T) =
           Ent.mk (Loc.blk b) (SObj.cells (SV.vec 1 ao (List.length xs) cap :: SV.func (Fn.func (79 : FuncId)) [] [] :: rest) T) ∧
           Ent.mk (Loc.sl ao cap) (SObj.vecL (214 : TypeId) 6 encItE xs (EV.mk (0 : Int) (0 : Int) (0 : Int) ByteArray.empty ByteArray.empty, (0 : Int))) =
            Ent.mk (Loc.sl ao cap) (SObj.vecL (214 : TypeId) 6 encItE xs (EV.mk (0 : Int) (0 : Int) (0 : Int) ByteArray.empty ByteArray.empty, (0 : Int))) ∧
            True) ∧
           (b_2 = b_2 ∧ true = true ∧ 6 = 6 ∧ 6 ≤ 6) ∧
            (Ent.mk (Loc.blk b) (SObj.cells (SV.vec 1 ao (List.length xs) cap :: SV.func (Fn.func (79 : FuncId)) [] [] :: rest) T) =
             Ent.mk (Loc.blk b) (SObj.cells (SV.vec 1 ao (List.length xs) cap :: SV.func (Fn.func (79 : FuncId)) [] [] :: rest) T) ∧
             Ent.mk (Loc.sl ao cap) (SObj.vecL (214 : TypeId) 6 encItE xs (EV.mk (0 : Int) (0 : Int) (0 : Int) ByteArray.empty ByteArray.empty, (0 : Int))) =
              Ent.mk (Loc.sl ao cap) (SObj.vecL (214 : TypeId) 6 encItE xs (EV.mk (0 : Int) (0 : Int) (0 : Int) ByteArray.empty ByteArray.empty, (0 : Int))) ∧
              True) ∧
             (b_1 = b_1 ∧ true = true ∧ 6 = 6 ∧ 6 ≤ 6) ∧
              (Ent.mk (Loc.blk b) (SObj.cells (SV.vec 1 ao (List.length xs) cap :: SV.func (Fn.func (79 : FuncId)) [] [] :: rest) T) =
               Ent.mk (Loc.blk b) (SObj.cells (SV.vec 1 ao (List.length xs) cap :: SV.func (Fn.func (79 : FuncId)) [] [] :: rest) T) ∧
               Ent.mk (Loc.sl ao cap) (SObj.vecL (214 : TypeId) 6 encItE xs (EV.mk (0 : Int) (0 : Int) (0 : Int) ByteArray.empty ByteArray.empty, (0 : Int))) =
                Ent.mk (Loc.sl ao cap) (SObj.vecL (214 : TypeId) 6 encItE xs (EV.mk (0 : Int) (0 : Int) (0 : Int) ByteArray.empty ByteArray.empty, (0 : Int))) ∧
                True) ∧
               b = b ∧
                (b_2 = b_2 ∧ 5 = 5) ∧
                 (b_1 = b_1 ∧ 5 = 5) ∧
                  true = true ∧
                   true = true ∧
                    ∀ (b_3 : Nat),
                     true = true ∧
                      ∀ (b_4 : Nat),
                       b_3 = b_3 ∧
                        b_4 = b_4 ∧
                         (Ent.mk (Loc.blk b) (SObj.cells (SV.vec 1 ao (List.length xs) cap :: SV.func (Fn.func (79 : FuncId)) [] [] :: rest) T) =
                          Ent.mk (Loc.blk b) (SObj.cells (SV.vec 1 ao (List.length xs) cap :: SV.func (Fn.func (79 : FuncId)) [] [] :: rest) T) ∧
                          Ent.mk (Loc.sl ao cap)
                           (SObj.vecL (214 : TypeId) 6 encItE xs (EV.mk (0 : Int) (0 : Int) (0 : Int) ByteArray.empty ByteArray.empty, (0 : Int))) =
                           Ent.mk (Loc.sl ao cap)
                            (SObj.vecL (214 : TypeId) 6 encItE xs (EV.mk (0 : Int) (0 : Int) (0 : Int) ByteArray.empty ByteArray.empty, (0 : Int))) ∧
                           Ent.mk (Loc.blk b_1)
                            (SObj.cells
                             [SV.int IntKind.i64 (List.getD xs (Int.toNat j) (EV.mk (0 : Int) (0 : Int) (0 : Int) ByteArray.empty ByteArray.empty, (0 : Int))).1.1,
                              SV.int IntKind.i64 (List.getD xs (Int.toNat j) (EV.mk (0 : Int) (0 : Int) (0 : Int) ByteArray.empty ByteArray.empty, (0 : Int))).1.2,
                              SV.int IntKind.i64 (List.getD xs (Int.toNat j) (EV.mk (0 : Int) (0 : Int) (0 : Int) ByteArray.empty ByteArray.empty, (0 : Int))).1.3,
                              SV.str (List.getD xs (Int.toNat j) (EV.mk (0 : Int) (0 : Int) (0 : Int) ByteArray.empty ByteArray.empty, (0 : Int))).1.4,
                              SV.str (List.getD xs (Int.toNat j) (EV.mk (0 : Int) (0 : Int) (0 : Int) ByteArray.empty ByteArray.empty, (0 : Int))).1.5,
                              SV.int IntKind.i64 (List.getD xs (Int.toNat j) (EV.mk (0 : Int) (0 : Int) (0 : Int) ByteArray.empty ByteArray.empty, (0 : Int))).2]
                             214) =
                            Ent.mk (Loc.blk b_1)
                             (SObj.cells
                              [SV.int IntKind.i64 (List.getD xs (Int.toNat j) (EV.mk (0 : Int) (0 : Int) (0 : Int) ByteArray.empty ByteArray.empty, (0 : Int))).1.1,
                               SV.int IntKind.i64 (List.getD xs (Int.toNat j) (EV.mk (0 : Int) (0 : Int) (0 : Int) ByteArray.empty ByteArray.empty, (0 : Int))).1.2,
                               SV.int IntKind.i64 (List.getD xs (Int.toNat j) (EV.mk (0 : Int) (0 : Int) (0 : Int) ByteArray.empty ByteArray.empty, (0 : Int))).1.3,
                               SV.str (List.getD xs (Int.toNat j) (EV.mk (0 : Int) (0 : Int) (0 : Int) ByteArray.empty ByteArray.empty, (0 : Int))).1.4,
                               SV.str (List.getD xs (Int.toNat j) (EV.mk (0 : Int) (0 : Int) (0 : Int) ByteArray.empty ByteArray.empty, (0 : Int))).1.5,
                               SV.int IntKind.i64 (List.getD xs (Int.toNat j) (EV.mk (0 : Int) (0 : Int) (0 : Int) ByteArray.empty ByteArray.empty, (0 : Int))).2]
                              214) ∧
                            Ent.mk (Loc.blk b_2)
                             (SObj.cells
                              [SV.int IntKind.i64 (List.getD xs (Int.toNat i) (EV.mk (0 : Int) (0 : Int) (0 : Int) ByteArray.empty ByteArray.empty, (0 : Int))).1.1,
                               SV.int IntKind.i64
                                (List.getD xs (Int.toNat i) (EV.mk (0 : Int) (0 : Int) (0 : Int) ByteArray.empty ByteArray.empty, (0 : Int))).1.2,
                               SV.int IntKind.i64
                                (List.getD xs (Int.toNat i) (EV.mk (0 : Int) (0 : Int) (0 : Int) ByteArray.empty ByteArray.empty, (0 : Int))).1.3,
                               SV.str (List.getD xs (Int.toNat i) (EV.mk (0 : Int) (0 : Int) (0 : Int) ByteArray.empty ByteArray.empty, (0 : Int))).1.4,
                               SV.str (List.getD xs (Int.toNat i) (EV.mk (0 : Int) (0 : Int) (0 : Int) ByteArray.empty ByteArray.empty, (0 : Int))).1.5,
                               SV.int IntKind.i64 (List.getD xs (Int.toNat i) (EV.mk (0 : Int) (0 : Int) (0 : Int) ByteArray.empty ByteArray.empty, (0 : Int))).2]
                              214) =
                             Ent.mk (Loc.blk b_2)
                              (SObj.cells
                               [SV.int IntKind.i64 (List.getD xs (Int.toNat i) (EV.mk (0 : Int) (0 : Int) (0 : Int) ByteArray.empty ByteArray.empty, (0 : Int))).1.1,
                                SV.int IntKind.i64
                                 (List.getD xs (Int.toNat i) (EV.mk (0 : Int) (0 : Int) (0 : Int) ByteArray.empty ByteArray.empty, (0 : Int))).1.2,
                                SV.int IntKind.i64
                                 (List.getD xs (Int.toNat i) (EV.mk (0 : Int) (0 : Int) (0 : Int) ByteArray.empty ByteArray.empty, (0 : Int))).1.3,
                                SV.str (List.getD xs (Int.toNat i) (EV.mk (0 : Int) (0 : Int) (0 : Int) ByteArray.empty ByteArray.empty, (0 : Int))).1.4,
                                SV.str (List.getD xs (Int.toNat i) (EV.mk (0 : Int) (0 : Int) (0 : Int) ByteArray.empty ByteArray.empty, (0 : Int))).1.5,
                                SV.int IntKind.i64 (List.getD xs (Int.toNat i) (EV.mk (0 : Int) (0 : Int) (0 : Int) ByteArray.empty ByteArray.empty, (0 : Int))).2]
                               214) ∧
                             True) ∧
                          match
                           decide
                            ((List.getD xs (Int.toNat i) (EV.mk (0 : Int) (0 : Int) (0 : Int) ByteArray.empty ByteArray.empty, (0 : Int))).1.1 <
                             (List.getD xs (Int.toNat j) (EV.mk (0 : Int) (0 : Int) (0 : Int) ByteArray.empty ByteArray.empty, (0 : Int))).1.1) with
                          | true =>
                           (Ent.mk (Loc.blk b) (SObj.cells (SV.vec 1 ao (List.length xs) cap :: SV.func (Fn.func (79 : FuncId)) [] [] :: rest) T) =
                            Ent.mk (Loc.blk b) (SObj.cells (SV.vec 1 ao (List.length xs) cap :: SV.func (Fn.func (79 : FuncId)) [] [] :: rest) T) ∧
                            Ent.mk (Loc.sl ao cap)
                             (SObj.vecL (214 : TypeId) 6 encItE xs (EV.mk (0 : Int) (0 : Int) (0 : Int) ByteArray.empty ByteArray.empty, (0 : Int))) =
                             Ent.mk (Loc.sl ao cap)
                              (SObj.vecL (214 : TypeId) 6 encItE xs (EV.mk (0 : Int) (0 : Int) (0 : Int) ByteArray.empty ByteArray.empty, (0 : Int))) ∧
                             Ent.mk (Loc.blk b_1)
                              (SObj.cells
                               [SV.int IntKind.i64
                                (List.getD xs (Int.toNat j) (EV.mk (0 : Int) (0 : Int) (0 : Int) ByteArray.empty ByteArray.empty, (0 : Int))).1.1,
                                SV.int IntKind.i64
                                 (List.getD xs (Int.toNat j) (EV.mk (0 : Int) (0 : Int) (0 : Int) ByteArray.empty ByteArray.empty, (0 : Int))).1.2,
                                SV.int IntKind.i64
                                 (List.getD xs (Int.toNat j) (EV.mk (0 : Int) (0 : Int) (0 : Int) ByteArray.empty ByteArray.empty, (0 : Int))).1.3,
                                SV.str (List.getD xs (Int.toNat j) (EV.mk (0 : Int) (0 : Int) (0 : Int) ByteArray.empty ByteArray.empty, (0 : Int))).1.4,
                                SV.str (List.getD xs (Int.toNat j) (EV.mk (0 : Int) (0 : Int) (0 : Int) ByteArray.empty ByteArray.empty, (0 : Int))).1.5,
                                SV.int IntKind.i64
                                 (List.getD xs (Int.toNat j) (EV.mk (0 : Int) (0 : Int) (0 : Int) ByteArray.empty ByteArray.empty, (0 : Int))).2]
                               214) =
                              Ent.mk (Loc.blk b_1)
                               (SObj.cells
                                [SV.int IntKind.i64
                                 (List.getD xs (Int.toNat j) (EV.mk (0 : Int) (0 : Int) (0 : Int) ByteArray.empty ByteArray.empty, (0 : Int))).1.1,
                                 SV.int IntKind.i64
                                  (List.getD xs (Int.toNat j) (EV.mk (0 : Int) (0 : Int) (0 : Int) ByteArray.empty ByteArray.empty, (0 : Int))).1.2,
                                 SV.int IntKind.i64
                                  (List.getD xs (Int.toNat j) (EV.mk (0 : Int) (0 : Int) (0 : Int) ByteArray.empty ByteArray.empty, (0 : Int))).1.3,
                                 SV.str (List.getD xs (Int.toNat j) (EV.mk (0 : Int) (0 : Int) (0 : Int) ByteArray.empty ByteArray.empty, (0 : Int))).1.4,
                                 SV.str (List.getD xs (Int.toNat j) (EV.mk (0 : Int) (0 : Int) (0 : Int) ByteArray.empty ByteArray.empty, (0 : Int))).1.5,
                                 SV.int IntKind.i64
                                  (List.getD xs (Int.toNat j) (EV.mk (0 : Int) (0 : Int) (0 : Int) ByteArray.empty ByteArray.empty, (0 : Int))).2]
                                214) ∧
                              Ent.mk (Loc.blk b_2)
                               (SObj.cells
                                [SV.int IntKind.i64
                                 (List.getD xs (Int.toNat i) (EV.mk (0 : Int) (0 : Int) (0 : Int) ByteArray.empty ByteArray.empty, (0 : Int))).1.1,
                                 SV.int IntKind.i64
                                  (List.getD xs (Int.toNat i) (EV.mk (0 : Int) (0 : Int) (0 : Int) ByteArray.empty ByteArray.empty, (0 : Int))).1.2,
                                 SV.int IntKind.i64
                                  (List.getD xs (Int.toNat i) (EV.mk (0 : Int) (0 : Int) (0 : Int) ByteArray.empty ByteArray.empty, (0 : Int))).1.3,
                                 SV.str (List.getD xs (Int.toNat i) (EV.mk (0 : Int) (0 : Int) (0 : Int) ByteArray.empty ByteArray.empty, (0 : Int))).1.4,
                                 SV.str (List.getD xs (Int.toNat i) (EV.mk (0 : Int) (0 : Int) (0 : Int) ByteArray.empty ByteArray.empty, (0 : Int))).1.5,
                                 SV.int IntKind.i64
                                  (List.getD xs (Int.toNat i) (EV.mk (0 : Int) (0 : Int) (0 : Int) ByteArray.empty ByteArray.empty, (0 : Int))).2]
                                214) =
                               Ent.mk (Loc.blk b_2)
                                (SObj.cells
                                 [SV.int IntKind.i64
                                  (List.getD xs (Int.toNat i) (EV.mk (0 : Int) (0 : Int) (0 : Int) ByteArray.empty ByteArray.empty, (0 : Int))).1.1,
                                  SV.int IntKind.i64
                                   (List.getD xs (Int.toNat i) (EV.mk (0 : Int) (0 : Int) (0 : Int) ByteArray.empty ByteArray.empty, (0 : Int))).1.2,
                                  SV.int IntKind.i64
                                   (List.getD xs (Int.toNat i) (EV.mk (0 : Int) (0 : Int) (0 : Int) ByteArray.empty ByteArray.empty, (0 : Int))).1.3,
                                  SV.str (List.getD xs (Int.toNat i) (EV.mk (0 : Int) (0 : Int) (0 : Int) ByteArray.empty ByteArray.empty, (0 : Int))).1.4,
                                  SV.str (List.getD xs (Int.toNat i) (EV.mk (0 : Int) (0 : Int) (0 : Int) ByteArray.empty ByteArray.empty, (0 : Int))).1.5,
                                  SV.int IntKind.i64
                                   (List.getD xs (Int.toNat i) (EV.mk (0 : Int) (0 : Int) (0 : Int) ByteArray.empty ByteArray.empty, (0 : Int))).2]
                                 214) ∧
                               True) ∧
                            true = true ∧
                             true = true ∧
                              true = true ∧
                               true = true ∧
                                true = true ∧
                                 N
                                  [Ent.mk (Loc.blk b) (SObj.cells (SV.vec 1 ao (List.length xs) cap :: SV.func (Fn.func (79 : FuncId)) [] [] :: rest) T),
                                   Ent.mk (Loc.sl ao cap)
                                    (SObj.vecL (214 : TypeId) 6 encItE xs (EV.mk (0 : Int) (0 : Int) (0 : Int) ByteArray.empty ByteArray.empty, (0 : Int))),
                                   Ent.mk (Loc.blk b_1)
                                    (SObj.cells
                                     [SV.int IntKind.i64
                                      (List.getD xs (Int.toNat j) (EV.mk (0 : Int) (0 : Int) (0 : Int) ByteArray.empty ByteArray.empty, (0 : Int))).1.1,
                                      SV.int IntKind.i64
                                       (List.getD xs (Int.toNat j) (EV.mk (0 : Int) (0 : Int) (0 : Int) ByteArray.empty ByteArray.empty, (0 : Int))).1.2,
                                      SV.int IntKind.i64
                                       (List.getD xs (Int.toNat j) (EV.mk (0 : Int) (0 : Int) (0 : Int) ByteArray.empty ByteArray.empty, (0 : Int))).1.3,
                                      SV.str (List.getD xs (Int.toNat j) (EV.mk (0 : Int) (0 : Int) (0 : Int) ByteArray.empty ByteArray.empty, (0 : Int))).1.4,
                                      SV.str (List.getD xs (Int.toNat j) (EV.mk (0 : Int) (0 : Int) (0 : Int) ByteArray.empty ByteArray.empty, (0 : Int))).1.5,
                                      SV.int IntKind.i64
                                       (List.getD xs (Int.toNat j) (EV.mk (0 : Int) (0 : Int) (0 : Int) ByteArray.empty ByteArray.empty, (0 : Int))).2]
                                     214),
                                   Ent.mk (Loc.blk b_2)
                                    (SObj.cells
                                     [SV.int IntKind.i64
                                      (List.getD xs (Int.toNat i) (EV.mk (0 : Int) (0 : Int) (0 : Int) ByteArray.empty ByteArray.empty, (0 : Int))).1.1,
                                      SV.int IntKind.i64
                                       (List.getD xs (Int.toNat i) (EV.mk (0 : Int) (0 : Int) (0 : Int) ByteArray.empty ByteArray.empty, (0 : Int))).1.2,
                                      SV.int IntKind.i64
                                       (List.getD xs (Int.toNat i) (EV.mk (0 : Int) (0 : Int) (0 : Int) ByteArray.empty ByteArray.empty, (0 : Int))).1.3,
                                      SV.str (List.getD xs (Int.toNat i) (EV.mk (0 : Int) (0 : Int) (0 : Int) ByteArray.empty ByteArray.empty, (0 : Int))).1.4,
                                      SV.str (List.getD xs (Int.toNat i) (EV.mk (0 : Int) (0 : Int) (0 : Int) ByteArray.empty ByteArray.empty, (0 : Int))).1.5,
                                      SV.int IntKind.i64
                                       (List.getD xs (Int.toNat i) (EV.mk (0 : Int) (0 : Int) (0 : Int) ByteArray.empty ByteArray.empty, (0 : Int))).2]
                                     214),
                                   Ent.mk (Loc.blk b_3)
                                    (SObj.cells
                                     [SV.int IntKind.i64
                                      (List.getD xs (Int.toNat i) (EV.mk (0 : Int) (0 : Int) (0 : Int) ByteArray.empty ByteArray.empty, (0 : Int))).1.1,
                                      SV.int IntKind.i64
                                       (List.getD xs (Int.toNat i) (EV.mk (0 : Int) (0 : Int) (0 : Int) ByteArray.empty ByteArray.empty, (0 : Int))).1.2,
                                      SV.int IntKind.i64
                                       (List.getD xs (Int.toNat i) (EV.mk (0 : Int) (0 : Int) (0 : Int) ByteArray.empty ByteArray.empty, (0 : Int))).1.3,
                                      SV.str (List.getD xs (Int.toNat i) (EV.mk (0 : Int) (0 : Int) (0 : Int) ByteArray.empty ByteArray.empty, (0 : Int))).1.4,
                                      SV.str (List.getD xs (Int.toNat i) (EV.mk (0 : Int) (0 : Int) (0 : Int) ByteArray.empty ByteArray.empty, (0 : Int))).1.5]
                                     79),
                                   Ent.mk (Loc.blk b_4)
                                    (SObj.cells
                                     [SV.int IntKind.i64
                                      (List.getD xs (Int.toNat j) (EV.mk (0 : Int) (0 : Int) (0 : Int) ByteArray.empty ByteArray.empty, (0 : Int))).1.1,
                                      SV.int IntKind.i64
                                       (List.getD xs (Int.toNat j) (EV.mk (0 : Int) (0 : Int) (0 : Int) ByteArray.empty ByteArray.empty, (0 : Int))).1.2,
                                      SV.int IntKind.i64
                                       (List.getD xs (Int.toNat j) (EV.mk (0 : Int) (0 : Int) (0 : Int) ByteArray.empty ByteArray.empty, (0 : Int))).1.3,
                                      SV.str (List.getD xs (Int.toNat j) (EV.mk (0 : Int) (0 : Int) (0 : Int) ByteArray.empty ByteArray.empty, (0 : Int))).1.4,
                                      SV.str (List.getD xs (Int.toNat j) (EV.mk (0 : Int) (0 : Int) (0 : Int) ByteArray.empty ByteArray.empty, (0 : Int))).1.5]
                                     79)]
                                  (SV.bool true)
                          | false =>
                           b = b ∧
                            (b_1 = b_1 ∧ 5 = 5) ∧
                             (b_2 = b_2 ∧ 5 = 5) ∧
                              true = true ∧
                               true = true ∧
                                ∀ (b_5 : Nat),
                                 true = true ∧
                                  ∀ (b_6 : Nat),
                                   b_5 = b_5 ∧
                                    b_6 = b_6 ∧
                                     (Ent.mk (Loc.blk b)
                                      (SObj.cells (SV.vec 1 ao (List.length xs) cap :: SV.func (Fn.func (79 : FuncId)) [] [] :: rest) T) =
                                      Ent.mk (Loc.blk b)
                                       (SObj.cells (SV.vec 1 ao (List.length xs) cap :: SV.func (Fn.func (79 : FuncId)) [] [] :: rest) T) ∧
                                      Ent.mk (Loc.sl ao cap)
                                       (SObj.vecL (214 : TypeId) 6 encItE xs
                                        (EV.mk (0 : Int) (0 : Int) (0 : Int) ByteArray.empty ByteArray.empty, (0 : Int))) =
                                       Ent.mk (Loc.sl ao cap)
                                        (SObj.vecL (214 : TypeId) 6 encItE xs
                                         (EV.mk (0 : Int) (0 : Int) (0 : Int) ByteArray.empty ByteArray.empty, (0 : Int))) ∧
                                       Ent.mk (Loc.blk b_1)
                                        (SObj.cells
                                         [SV.int IntKind.i64
                                          (List.getD xs (Int.toNat j)
                                           (EV.mk (0 : Int) (0 : Int) (0 : Int) ByteArray.empty ByteArray.empty, (0 : Int))).1.1,
                                          SV.int IntKind.i64
                                           (List.getD xs (Int.toNat j)
                                            (EV.mk (0 : Int) (0 : Int) (0 : Int) ByteArray.empty ByteArray.empty, (0 : Int))).1.2,
                                          SV.int IntKind.i64
                                           (List.getD xs (Int.toNat j)
                                            (EV.mk (0 : Int) (0 : Int) (0 : Int) ByteArray.empty ByteArray.empty, (0 : Int))).1.3,
                                          SV.str
                                           (List.getD xs (Int.toNat j)
                                            (EV.mk (0 : Int) (0 : Int) (0 : Int) ByteArray.empty ByteArray.empty, (0 : Int))).1.4,
                                          SV.str
                                           (List.getD xs (Int.toNat j)
                                            (EV.mk (0 : Int) (0 : Int) (0 : Int) ByteArray.empty ByteArray.empty, (0 : Int))).1.5,
                                          SV.int IntKind.i64
                                           (List.getD xs (Int.toNat j)
                                            (EV.mk (0 : Int) (0 : Int) (0 : Int) ByteArray.empty ByteArray.empty, (0 : Int))).2]
                                         214) =
                                        Ent.mk (Loc.blk b_1)
                                         (SObj.cells
                                          [SV.int IntKind.i64
                                           (List.getD xs (Int.toNat j)
                                            (EV.mk (0 : Int) (0 : Int) (0 : Int) ByteArray.empty ByteArray.empty, (0 : Int))).1.1,
                                           SV.int IntKind.i64
                                            (List.getD xs (Int.toNat j)
                                             (EV.mk (0 : Int) (0 : Int) (0 : Int) ByteArray.empty ByteArray.empty, (0 : Int))).1.2,
                                           SV.int IntKind.i64
                                            (List.getD xs (Int.toNat j)
                                             (EV.mk (0 : Int) (0 : Int) (0 : Int) ByteArray.empty ByteArray.empty, (0 : Int))).1.3,
                                           SV.str
                                            (List.getD xs (Int.toNat j)
                                             (EV.mk (0 : Int) (0 : Int) (0 : Int) ByteArray.empty ByteArray.empty, (0 : Int))).1.4,
                                           SV.str
                                            (List.getD xs (Int.toNat j)
                                             (EV.mk (0 : Int) (0 : Int) (0 : Int) ByteArray.empty ByteArray.empty, (0 : Int))).1.5,
                                           SV.int IntKind.i64
                                            (List.getD xs (Int.toNat j)
                                             (EV.mk (0 : Int) (0 : Int) (0 : Int) ByteArray.empty ByteArray.empty, (0 : Int))).2]
                                          214) ∧
                                        Ent.mk (Loc.blk b_2)
                                         (SObj.cells
                                          [SV.int IntKind.i64
                                           (List.getD xs (Int.toNat i)
                                            (EV.mk (0 : Int) (0 : Int) (0 : Int) ByteArray.empty ByteArray.empty, (0 : Int))).1.1,
                                           SV.int IntKind.i64
                                            (List.getD xs (Int.toNat i)
                                             (EV.mk (0 : Int) (0 : Int) (0 : Int) ByteArray.empty ByteArray.empty, (0 : Int))).1.2,
                                           SV.int IntKind.i64
                                            (List.getD xs (Int.toNat i)
                                             (EV.mk (0 : Int) (0 : Int) (0 : Int) ByteArray.empty ByteArray.empty, (0 : Int))).1.3,
                                           SV.str
                                            (List.getD xs (Int.toNat i)
                                             (EV.mk (0 : Int) (0 : Int) (0 : Int) ByteArray.empty ByteArray.empty, (0 : Int))).1.4,
                                           SV.str
                                            (List.getD xs (Int.toNat i)
                                             (EV.mk (0 : Int) (0 : Int) (0 : Int) ByteArray.empty ByteArray.empty, (0 : Int))).1.5,
                                           SV.int IntKind.i64
                                            (List.getD xs (Int.toNat i)
                                             (EV.mk (0 : Int) (0 : Int) (0 : Int) ByteArray.empty ByteArray.empty, (0 : Int))).2]
                                          214) =
                                         Ent.mk (Loc.blk b_2)
                                          (SObj.cells
                                           [SV.int IntKind.i64
                                            (List.getD xs (Int.toNat i)
                                             (EV.mk (0 : Int) (0 : Int) (0 : Int) ByteArray.empty ByteArray.empty, (0 : Int))).1.1,
                                            SV.int IntKind.i64
                                             (List.getD xs (Int.toNat i)
                                              (EV.mk (0 : Int) (0 : Int) (0 : Int) ByteArray.empty ByteArray.empty, (0 : Int))).1.2,
                                            SV.int IntKind.i64
                                             (List.getD xs (Int.toNat i)
                                              (EV.mk (0 : Int) (0 : Int) (0 : Int) ByteArray.empty ByteArray.empty, (0 : Int))).1.3,
                                            SV.str
                                             (List.getD xs (Int.toNat i)
                                              (EV.mk (0 : Int) (0 : Int) (0 : Int) ByteArray.empty ByteArray.empty, (0 : Int))).1.4,
                                            SV.str
                                             (List.getD xs (Int.toNat i)
                                              (EV.mk (0 : Int) (0 : Int) (0 : Int) ByteArray.empty ByteArray.empty, (0 : Int))).1.5,
                                            SV.int IntKind.i64
                                             (List.getD xs (Int.toNat i)
                                              (EV.mk (0 : Int) (0 : Int) (0 : Int) ByteArray.empty ByteArray.empty, (0 : Int))).2]
                                           214) ∧
                                         True) ∧
                                      match
                                       !decide
                                        ((List.getD xs (Int.toNat j) (EV.mk (0 : Int) (0 : Int) (0 : Int) ByteArray.empty ByteArray.empty, (0 : Int))).1.1 <
                                         (List.getD xs (Int.toNat i)
                                          (EV.mk (0 : Int) (0 : Int) (0 : Int) ByteArray.empty ByteArray.empty, (0 : Int))).1.1) with
                                      | true =>
                                       b_2 = b_2 ∧
                                        b_1 = b_1 ∧
                                         N
                                          [Ent.mk (Loc.blk b)
                                           (SObj.cells (SV.vec 1 ao (List.length xs) cap :: SV.func (Fn.func (79 : FuncId)) [] [] :: rest) T),
                                           Ent.mk (Loc.sl ao cap)
                                            (SObj.vecL (214 : TypeId) 6 encItE xs
                                             (EV.mk (0 : Int) (0 : Int) (0 : Int) ByteArray.empty ByteArray.empty, (0 : Int))),
                                           Ent.mk (Loc.blk b_1)
                                            (SObj.cells
                                             [SV.int IntKind.i64
                                              (List.getD xs (Int.toNat j)
                                               (EV.mk (0 : Int) (0 : Int) (0 : Int) ByteArray.empty ByteArray.empty, (0 : Int))).1.1,
                                              SV.int IntKind.i64
                                               (List.getD xs (Int.toNat j)
                                                (EV.mk (0 : Int) (0 : Int) (0 : Int) ByteArray.empty ByteArray.empty, (0 : Int))).1.2,
                                              SV.int IntKind.i64
                                               (List.getD xs (Int.toNat j)
                                                (EV.mk (0 : Int) (0 : Int) (0 : Int) ByteArray.empty ByteArray.empty, (0 : Int))).1.3,
                                              SV.str
                                               (List.getD xs (Int.toNat j)
                                                (EV.mk (0 : Int) (0 : Int) (0 : Int) ByteArray.empty ByteArray.empty, (0 : Int))).1.4,
                                              SV.str
                                               (List.getD xs (Int.toNat j)
                                                (EV.mk (0 : Int) (0 : Int) (0 : Int) ByteArray.empty ByteArray.empty, (0 : Int))).1.5,
                                              SV.int IntKind.i64
                                               (List.getD xs (Int.toNat j)
                                                (EV.mk (0 : Int) (0 : Int) (0 : Int) ByteArray.empty ByteArray.empty, (0 : Int))).2]
                                             214),
                                           Ent.mk (Loc.blk b_2)
                                            (SObj.cells
                                             [SV.int IntKind.i64
                                              (List.getD xs (Int.toNat i)
                                               (EV.mk (0 : Int) (0 : Int) (0 : Int) ByteArray.empty ByteArray.empty, (0 : Int))).1.1,
                                              SV.int IntKind.i64
                                               (List.getD xs (Int.toNat i)
                                                (EV.mk (0 : Int) (0 : Int) (0 : Int) ByteArray.empty ByteArray.empty, (0 : Int))).1.2,
                                              SV.int IntKind.i64
                                               (List.getD xs (Int.toNat i)
                                                (EV.mk (0 : Int) (0 : Int) (0 : Int) ByteArray.empty ByteArray.empty, (0 : Int))).1.3,
                                              SV.str
                                               (List.getD xs (Int.toNat i)
                                                (EV.mk (0 : Int) (0 : Int) (0 : Int) ByteArray.empty ByteArray.empty, (0 : Int))).1.4,
                                              SV.str
                                               (List.getD xs (Int.toNat i)
                                                (EV.mk (0 : Int) (0 : Int) (0 : Int) ByteArray.empty ByteArray.empty, (0 : Int))).1.5,
                                              SV.int IntKind.i64
                                               (List.getD xs (Int.toNat i)
                                                (EV.mk (0 : Int) (0 : Int) (0 : Int) ByteArray.empty ByteArray.empty, (0 : Int))).2]
                                             214),
                                           Ent.mk (Loc.blk b_3)
                                            (SObj.cells
                                             [SV.int IntKind.i64
                                              (List.getD xs (Int.toNat i)
                                               (EV.mk (0 : Int) (0 : Int) (0 : Int) ByteArray.empty ByteArray.empty, (0 : Int))).1.1,
                                              SV.int IntKind.i64
                                               (List.getD xs (Int.toNat i)
                                                (EV.mk (0 : Int) (0 : Int) (0 : Int) ByteArray.empty ByteArray.empty, (0 : Int))).1.2,
                                              SV.int IntKind.i64
                                               (List.getD xs (Int.toNat i)
                                                (EV.mk (0 : Int) (0 : Int) (0 : Int) ByteArray.empty ByteArray.empty, (0 : Int))).1.3,
                                              SV.str
                                               (List.getD xs (Int.toNat i)
                                                (EV.mk (0 : Int) (0 : Int) (0 : Int) ByteArray.empty ByteArray.empty, (0 : Int))).1.4,
                                              SV.str
                                               (List.getD xs (Int.toNat i)
                                                (EV.mk (0 : Int) (0 : Int) (0 : Int) ByteArray.empty ByteArray.empty, (0 : Int))).1.5]
                                             79),
                                           Ent.mk (Loc.blk b_4)
                                            (SObj.cells
                                             [SV.int IntKind.i64
                                              (List.getD xs (Int.toNat j)
                                               (EV.mk (0 : Int) (0 : Int) (0 : Int) ByteArray.empty ByteArray.empty, (0 : Int))).1.1,
                                              SV.int IntKind.i64
                                               (List.getD xs (Int.toNat j)
                                                (EV.mk (0 : Int) (0 : Int) (0 : Int) ByteArray.empty ByteArray.empty, (0 : Int))).1.2,
                                              SV.int IntKind.i64
                                               (List.getD xs (Int.toNat j)
                                                (EV.mk (0 : Int) (0 : Int) (0 : Int) ByteArray.empty ByteArray.empty, (0 : Int))).1.3,
                                              SV.str
                                               (List.getD xs (Int.toNat j)
                                                (EV.mk (0 : Int) (0 : Int) (0 : Int) ByteArray.empty ByteArray.empty, (0 : Int))).1.4,
                                              SV.str
                                               (List.getD xs (Int.toNat j)
                                                (EV.mk (0 : Int) (0 : Int) (0 : Int) ByteArray.empty ByteArray.empty, (0 : Int))).1.5]
                                             79),
                                           Ent.mk (Loc.blk b_5)
                                            (SObj.cells
                                             [SV.int IntKind.i64
                                              (List.getD xs (Int.toNat j)
                                               (EV.mk (0 : Int) (0 : Int) (0 : Int) ByteArray.empty ByteArray.empty, (0 : Int))).1.1,
                                              SV.int IntKind.i64
                                               (List.getD xs (Int.toNat j)
                                                (EV.mk (0 : Int) (0 : Int) (0 : Int) ByteArray.empty ByteArray.empty, (0 : Int))).1.2,
                                              SV.int IntKind.i64
                                               (List.getD xs (Int.toNat j)
                                                (EV.mk (0 : Int) (0 : Int) (0 : Int) ByteArray.empty ByteArray.empty, (0 : Int))).1.3,
                                              SV.str
                                               (List.getD xs (Int.toNat j)
                                                (EV.mk (0 : Int) (0 : Int) (0 : Int) ByteArray.empty ByteArray.empty, (0 : Int))).1.4,
                                              SV.str
                                               (List.getD xs (Int.toNat j)
                                                (EV.mk (0 : Int) (0 : Int) (0 : Int) ByteArray.empty ByteArray.empty, (0 : Int))).1.5]
                                             79),
                                           Ent.mk (Loc.blk b_6)
                                            (SObj.cells
                                             [SV.int IntKind.i64
                                              (List.getD xs (Int.toNat i)
                                               (EV.mk (0 : Int) (0 : Int) (0 : Int) ByteArray.empty ByteArray.empty, (0 : Int))).1.1,
                                              SV.int IntKind.i64
                                               (List.getD xs (Int.toNat i)
                                                (EV.mk (0 : Int) (0 : Int) (0 : Int) ByteArray.empty ByteArray.empty, (0 : Int))).1.2,
                                              SV.int IntKind.i64
                                               (List.getD xs (Int.toNat i)
                                                (EV.mk (0 : Int) (0 : Int) (0 : Int) ByteArray.empty ByteArray.empty, (0 : Int))).1.3,
                                              SV.str
                                               (List.getD xs (Int.toNat i)
                                                (EV.mk (0 : Int) (0 : Int) (0 : Int) ByteArray.empty ByteArray.empty, (0 : Int))).1.4,
                                              SV.str
                                               (List.getD xs (Int.toNat i)
                                                (EV.mk (0 : Int) (0 : Int) (0 : Int) ByteArray.empty ByteArray.empty, (0 : Int))).1.5]
                                             79)]
                                          (SV.bool
                                           (decide
                                            ((List.getD xs (Int.toNat i)
                                             (EV.mk (0 : Int) (0 : Int) (0 : Int) ByteArray.empty ByteArray.empty, (0 : Int))).2 <
                                             (List.getD xs (Int.toNat j)
                                              (EV.mk (0 : Int) (0 : Int) (0 : Int) ByteArray.empty ByteArray.empty, (0 : Int))).2)))
                                      | false =>
                                       N
                                        [Ent.mk (Loc.blk b)
                                         (SObj.cells (SV.vec 1 ao (List.length xs) cap :: SV.func (Fn.func (79 : FuncId)) [] [] :: rest) T),
                                         Ent.mk (Loc.sl ao cap)
                                          (SObj.vecL (214 : TypeId) 6 encItE xs
                                           (EV.mk (0 : Int) (0 : Int) (0 : Int) ByteArray.empty ByteArray.empty, (0 : Int))),
                                         Ent.mk (Loc.blk b_1)
                                          (SObj.cells
                                           [SV.int IntKind.i64
                                            (List.getD xs (Int.toNat j)
                                             (EV.mk (0 : Int) (0 : Int) (0 : Int) ByteArray.empty ByteArray.empty, (0 : Int))).1.1,
                                            SV.int IntKind.i64
                                             (List.getD xs (Int.toNat j)
                                              (EV.mk (0 : Int) (0 : Int) (0 : Int) ByteArray.empty ByteArray.empty, (0 : Int))).1.2,
                                            SV.int IntKind.i64
                                             (List.getD xs (Int.toNat j)
                                              (EV.mk (0 : Int) (0 : Int) (0 : Int) ByteArray.empty ByteArray.empty, (0 : Int))).1.3,
                                            SV.str
                                             (List.getD xs (Int.toNat j)
                                              (EV.mk (0 : Int) (0 : Int) (0 : Int) ByteArray.empty ByteArray.empty, (0 : Int))).1.4,
                                            SV.str
                                             (List.getD xs (Int.toNat j)
                                              (EV.mk (0 : Int) (0 : Int) (0 : Int) ByteArray.empty ByteArray.empty, (0 : Int))).1.5,
                                            SV.int IntKind.i64
                                             (List.getD xs (Int.toNat j)
                                              (EV.mk (0 : Int) (0 : Int) (0 : Int) ByteArray.empty ByteArray.empty, (0 : Int))).2]
                                           214),
                                         Ent.mk (Loc.blk b_2)
                                          (SObj.cells
                                           [SV.int IntKind.i64
                                            (List.getD xs (Int.toNat i)
                                             (EV.mk (0 : Int) (0 : Int) (0 : Int) ByteArray.empty ByteArray.empty, (0 : Int))).1.1,
                                            SV.int IntKind.i64
                                             (List.getD xs (Int.toNat i)
                                              (EV.mk (0 : Int) (0 : Int) (0 : Int) ByteArray.empty ByteArray.empty, (0 : Int))).1.2,
                                            SV.int IntKind.i64
                                             (List.getD xs (Int.toNat i)
                                              (EV.mk (0 : Int) (0 : Int) (0 : Int) ByteArray.empty ByteArray.empty, (0 : Int))).1.3,
                                            SV.str
                                             (List.getD xs (Int.toNat i)
                                              (EV.mk (0 : Int) (0 : Int) (0 : Int) ByteArray.empty ByteArray.empty, (0 : Int))).1.4,
                                            SV.str
                                             (List.getD xs (Int.toNat i)
                                              (EV.mk (0 : Int) (0 : Int) (0 : Int) ByteArray.empty ByteArray.empty, (0 : Int))).1.5,
                                            SV.int IntKind.i64
                                             (List.getD xs (Int.toNat i)
                                              (EV.mk (0 : Int) (0 : Int) (0 : Int) ByteArray.empty ByteArray.empty, (0 : Int))).2]
                                           214),
                                         Ent.mk (Loc.blk b_3)
                                          (SObj.cells
                                           [SV.int IntKind.i64
                                            (List.getD xs (Int.toNat i)
                                             (EV.mk (0 : Int) (0 : Int) (0 : Int) ByteArray.empty ByteArray.empty, (0 : Int))).1.1,
                                            SV.int IntKind.i64
                                             (List.getD xs (Int.toNat i)
                                              (EV.mk (0 : Int) (0 : Int) (0 : Int) ByteArray.empty ByteArray.empty, (0 : Int))).1.2,
                                            SV.int IntKind.i64
                                             (List.getD xs (Int.toNat i)
                                              (EV.mk (0 : Int) (0 : Int) (0 : Int) ByteArray.empty ByteArray.empty, (0 : Int))).1.3,
                                            SV.str
                                             (List.getD xs (Int.toNat i)
                                              (EV.mk (0 : Int) (0 : Int) (0 : Int) ByteArray.empty ByteArray.empty, (0 : Int))).1.4,
                                            SV.str
                                             (List.getD xs (Int.toNat i)
                                              (EV.mk (0 : Int) (0 : Int) (0 : Int) ByteArray.empty ByteArray.empty, (0 : Int))).1.5]
                                           79),
                                         Ent.mk (Loc.blk b_4)
                                          (SObj.cells
                                           [SV.int IntKind.i64
                                            (List.getD xs (Int.toNat j)
                                             (EV.mk (0 : Int) (0 : Int) (0 : Int) ByteArray.empty ByteArray.empty, (0 : Int))).1.1,
                                            SV.int IntKind.i64
                                             (List.getD xs (Int.toNat j)
                                              (EV.mk (0 : Int) (0 : Int) (0 : Int) ByteArray.empty ByteArray.empty, (0 : Int))).1.2,
                                            SV.int IntKind.i64
                                             (List.getD xs (Int.toNat j)
                                              (EV.mk (0 : Int) (0 : Int) (0 : Int) ByteArray.empty ByteArray.empty, (0 : Int))).1.3,
                                            SV.str
                                             (List.getD xs (Int.toNat j)
                                              (EV.mk (0 : Int) (0 : Int) (0 : Int) ByteArray.empty ByteArray.empty, (0 : Int))).1.4,
                                            SV.str
                                             (List.getD xs (Int.toNat j)
                                              (EV.mk (0 : Int) (0 : Int) (0 : Int) ByteArray.empty ByteArray.empty, (0 : Int))).1.5]
                                           79),
                                         Ent.mk (Loc.blk b_5)
                                          (SObj.cells
                                           [SV.int IntKind.i64
                                            (List.getD xs (Int.toNat j)
                                             (EV.mk (0 : Int) (0 : Int) (0 : Int) ByteArray.empty ByteArray.empty, (0 : Int))).1.1,
                                            SV.int IntKind.i64
                                             (List.getD xs (Int.toNat j)
                                              (EV.mk (0 : Int) (0 : Int) (0 : Int) ByteArray.empty ByteArray.empty, (0 : Int))).1.2,
                                            SV.int IntKind.i64
                                             (List.getD xs (Int.toNat j)
                                              (EV.mk (0 : Int) (0 : Int) (0 : Int) ByteArray.empty ByteArray.empty, (0 : Int))).1.3,
                                            SV.str
                                             (List.getD xs (Int.toNat j)
                                              (EV.mk (0 : Int) (0 : Int) (0 : Int) ByteArray.empty ByteArray.empty, (0 : Int))).1.4,
                                            SV.str
                                             (List.getD xs (Int.toNat j)
                                              (EV.mk (0 : Int) (0 : Int) (0 : Int) ByteArray.empty ByteArray.empty, (0 : Int))).1.5]
                                           79),
                                         Ent.mk (Loc.blk b_6)
                                          (SObj.cells
                                           [SV.int IntKind.i64
                                            (List.getD xs (Int.toNat i)
                                             (EV.mk (0 : Int) (0 : Int) (0 : Int) ByteArray.empty ByteArray.empty, (0 : Int))).1.1,
                                            SV.int IntKind.i64
                                             (List.getD xs (Int.toNat i)
                                              (EV.mk (0 : Int) (0 : Int) (0 : Int) ByteArray.empty ByteArray.empty, (0 : Int))).1.2,
                                            SV.int IntKind.i64
                                             (List.getD xs (Int.toNat i)
                                              (EV.mk (0 : Int) (0 : Int) (0 : Int) ByteArray.empty ByteArray.empty, (0 : Int))).1.3,
                                            SV.str
                                             (List.getD xs (Int.toNat i)
                                              (EV.mk (0 : Int) (0 : Int) (0 : Int) ByteArray.empty ByteArray.empty, (0 : Int))).1.4,
                                            SV.str
                                             (List.getD xs (Int.toNat i)
                                              (EV.mk (0 : Int) (0 : Int) (0 : Int) ByteArray.empty ByteArray.empty, (0 : Int))).1.5]
                                           79)]
                                        (SV.bool false)) := by kernel_rfl


theorem qEswap (K : List Frm → Sy → Prop) (N : List Ent → SV → Prop) (b cap : Nat) (ao : Option Addr) (rest : List SV) (T : TypeId) (xs : List (EV × Int)) (f : FuncId) (i j : Int) : (run Try.prog [] false [] K (retP Try.prog Try.f227.results.toList N) 900 [.code (bodyOf Try.f227)] ⟨padTo 32 [.ptr 0 b 0, .int .i64 i, .int .i64 j], qhG 214 6 encItE ((⟨0, 0, 0, ByteArray.empty, ByteArray.empty⟩ : EV), (0 : Int)) b ao cap f rest T xs⟩) = (
b = b ∧
 b = b ∧
  b = b ∧
   (ao = ao ∧ cap = cap ∧ List.length xs = List.length xs ∧ (0 : Int) ≤ j ∧ j < (↑(List.length xs) : Int)) ∧
    (Addr.blkD ao = Addr.blkD ao ∧ Addr.offD ao = Addr.offD ao ∧ 6 = 6 ∧ Int.toNat j < List.length xs ∧ 6 = 6) ∧
     b = b ∧
      (ao = ao ∧ cap = cap ∧ List.length xs = List.length xs ∧ (0 : Int) ≤ i ∧ i < (↑(List.length xs) : Int)) ∧
       (Addr.blkD ao = Addr.blkD ao ∧ Addr.offD ao = Addr.offD ao ∧ 6 = 6 ∧ Int.toNat i < List.length xs ∧ 6 = 6) ∧
        (ao = ao ∧ cap = cap ∧ List.length xs = List.length xs ∧ (0 : Int) ≤ i ∧ i < (↑(List.length xs) : Int)) ∧
         (Addr.blkD ao = Addr.blkD ao ∧ Addr.offD ao = Addr.offD ao ∧ 6 = 6 ∧ Int.toNat i < List.length xs ∧ true = true ∧ 6 = 6 ∧ 6 ≤ 6) ∧
          ∃ (e : EV × Int),
           denL [SV.int IntKind.i64 e.1.1, SV.int IntKind.i64 e.1.2, SV.int IntKind.i64 e.1.3, SV.str e.1.4, SV.str e.1.5, SV.int IntKind.i64 e.2] =
            denL
             [SV.int IntKind.i64 (List.getD xs (Int.toNat j) (EV.mk (0 : Int) (0 : Int) (0 : Int) ByteArray.empty ByteArray.empty, (0 : Int))).1.1,
              SV.int IntKind.i64 (List.getD xs (Int.toNat j) (EV.mk (0 : Int) (0 : Int) (0 : Int) ByteArray.empty ByteArray.empty, (0 : Int))).1.2,
              SV.int IntKind.i64 (List.getD xs (Int.toNat j) (EV.mk (0 : Int) (0 : Int) (0 : Int) ByteArray.empty ByteArray.empty, (0 : Int))).1.3,
              SV.str (List.getD xs (Int.toNat j) (EV.mk (0 : Int) (0 : Int) (0 : Int) ByteArray.empty ByteArray.empty, (0 : Int))).1.4,
              SV.str (List.getD xs (Int.toNat j) (EV.mk (0 : Int) (0 : Int) (0 : Int) ByteArray.empty ByteArray.empty, (0 : Int))).1.5,
              SV.int IntKind.i64 (List.getD xs (Int.toNat j) (EV.mk (0 : Int) (0 : Int) (0 : Int) ByteArray.empty ByteArray.empty, (0 : Int))).2] ∧
            (ao = ao ∧ cap = cap ∧ List.length xs = List.length (List.set xs (Int.toNat i) e) ∧ (0 : Int) ≤ j ∧ j < (↑(List.length xs) : Int)) ∧
             (Addr.blkD ao = Addr.blkD ao ∧
              Addr.offD ao = Addr.offD ao ∧
               6 = 6 ∧ Int.toNat j < List.length (List.set xs (Int.toNat i) e) ∧ true = true ∧ 6 = 6 ∧ 6 ≤ 6) ∧
              ∃ (e_1 : EV × Int),
               denL [SV.int IntKind.i64 e_1.1.1, SV.int IntKind.i64 e_1.1.2, SV.int IntKind.i64 e_1.1.3, SV.str e_1.1.4, SV.str e_1.1.5, SV.int IntKind.i64 e_1.2] =
                denL
                 [SV.int IntKind.i64 (List.getD xs (Int.toNat i) (EV.mk (0 : Int) (0 : Int) (0 : Int) ByteArray.empty ByteArray.empty, (0 : Int))).1.1,
                  SV.int IntKind.i64 (List.getD xs (Int.toNat i) (EV.mk (0 : Int) (0 : Int) (0 : Int) ByteArray.empty ByteArray.empty, (0 : Int))).1.2,
                  SV.int IntKind.i64 (List.getD xs (Int.toNat i) (EV.mk (0 : Int) (0 : Int) (0 : Int) ByteArray.empty ByteArray.empty, (0 : Int))).1.3,
                  SV.str (List.getD xs (Int.toNat i) (EV.mk (0 : Int) (0 : Int) (0 : Int) ByteArray.empty ByteArray.empty, (0 : Int))).1.4,
                  SV.str (List.getD xs (Int.toNat i) (EV.mk (0 : Int) (0 : Int) (0 : Int) ByteArray.empty ByteArray.empty, (0 : Int))).1.5,
                  SV.int IntKind.i64 (List.getD xs (Int.toNat i) (EV.mk (0 : Int) (0 : Int) (0 : Int) ByteArray.empty ByteArray.empty, (0 : Int))).2] ∧
                N
                 [Ent.mk (Loc.blk b) (SObj.cells (SV.vec 1 ao (List.length xs) cap :: SV.func (Fn.func f) [] [] :: rest) T),
                  Ent.mk (Loc.sl ao cap)
                   (SObj.vecL (214 : TypeId) 6 encItE (List.set (List.set xs (Int.toNat i) e) (Int.toNat j) e_1)
                    (EV.mk (0 : Int) (0 : Int) (0 : Int) ByteArray.empty ByteArray.empty, (0 : Int)))]
                 (SV.tuple [])) := by kernel_rfl


theorem qEppush (K : List Frm → Sy → Prop) (N : List Ent → SV → Prop) (b cap : Nat) (ao : Option Addr) (rest : List SV) (T : TypeId) (xs : List (EV × Int)) (f : FuncId) (v : EV × Int) : (run Try.prog [] false [] K (retP Try.prog Try.f226.results.toList N) 900 [.code (bodyOf Try.f226)] ⟨padTo 15 [.ptr 0 b 0, .iface 214 (.agg (encItE v))], qhG 214 6 encItE ((⟨0, 0, 0, ByteArray.empty, ByteArray.empty⟩ : EV), (0 : Int)) b ao cap f rest T xs⟩) = (
b = b ∧
 (true = true ∧ 6 = 6 ∧ 0 < 6 ∧ 6 ≤ 16777216) ∧
  ∀ (b_1 : Nat),
   (Ent.mk (Loc.blk b) (SObj.cells (SV.vec 1 ao (List.length xs) cap :: SV.func (Fn.func f) [] [] :: rest) T) =
    Ent.mk (Loc.blk b) (SObj.cells (SV.vec 1 ao (List.length xs) cap :: SV.func (Fn.func f) [] [] :: rest) T) ∧
    Ent.mk (Loc.sl ao cap) (SObj.vecL (214 : TypeId) 6 encItE xs (EV.mk (0 : Int) (0 : Int) (0 : Int) ByteArray.empty ByteArray.empty, (0 : Int))) =
     Ent.mk (Loc.sl ao cap) (SObj.vecL (214 : TypeId) 6 encItE xs (EV.mk (0 : Int) (0 : Int) (0 : Int) ByteArray.empty ByteArray.empty, (0 : Int))) ∧
     True) ∧
    (ao = ao ∧
     cap = cap ∧
      List.length xs = List.length xs ∧
       some (Addr.mk b_1 0 (@none Nat)) = some (Addr.mk b_1 0 (@none Nat)) ∧
        (214 : TypeId) = 214 ∧
         6 = 6 ∧
          6 = 6 ∧
           0 < 1 ∧ true = true ∧ (List.length xs + 1) * 64 ≤ 140737488355328 ∧ List.length xs + 1 ≤ 9223372036854775807) ∧
     ∃ (es : List (EV × Int)),
      List.length es = 1 ∧
       denL (List.flatMap encItE es) = denL [SV.int IntKind.i64 v.1.1, SV.int IntKind.i64 v.1.2, SV.int IntKind.i64 v.1.3, SV.str v.1.4, SV.str v.1.5, SV.int IntKind.i64 v.2] ∧
        ∀ (ao2 : Option Addr) (cap2 : Nat),
         List.length xs + 1 ≤ cap2 →
          (b = b ∧ true = true ∧ 1 = 1 ∧ 1 ≤ lenN rest + 1 + 1) ∧
           N
            [Ent.mk (Loc.blk b) (SObj.cells (SV.vec 1 ao2 (List.length xs + 1) cap2 :: SV.func (Fn.func f) [] [] :: rest) T),
             Ent.mk (Loc.sl ao2 cap2) (SObj.vecL (214 : TypeId) 6 encItE (xs ++ es) (EV.mk (0 : Int) (0 : Int) (0 : Int) ByteArray.empty ByteArray.empty, (0 : Int))),
             Ent.mk (Loc.blk b_1)
              (SObj.cells [SV.int IntKind.i64 v.1.1, SV.int IntKind.i64 v.1.2, SV.int IntKind.i64 v.1.3, SV.str v.1.4, SV.str v.1.5, SV.int IntKind.i64 v.2] 214)]
            (SV.tuple [])) := by kernel_rfl


theorem qEppop (K : List Frm → Sy → Prop) (N : List Ent → SV → Prop) (b cap : Nat) (ao : Option Addr) (rest : List SV) (T : TypeId) (xs : List (EV × Int)) (f : FuncId) : (run Try.prog [] false [] K (retP Try.prog Try.f225.results.toList N) 900 [.code (bodyOf Try.f225)] ⟨padTo 29 [.ptr 0 b 0], qhG 214 6 encItE ((⟨0, 0, 0, ByteArray.empty, ByteArray.empty⟩ : EV), (0 : Int)) b ao cap f rest T xs⟩) = (
b = b ∧
 b = b ∧
  (ao = ao ∧
   cap = cap ∧
    List.length xs = List.length xs ∧
     (0 : Int) ≤ IntKind.wrap IntKind.i64 ((↑(List.length xs) : Int) - (1 : Int)) ∧ IntKind.wrap IntKind.i64 ((↑(List.length xs) : Int) - (1 : Int)) < (↑(List.length xs) : Int)) ∧
   (Addr.blkD ao = Addr.blkD ao ∧
    Addr.offD ao = Addr.offD ao ∧ 6 = 6 ∧ Int.toNat (IntKind.wrap IntKind.i64 ((↑(List.length xs) : Int) - (1 : Int))) < List.length xs ∧ 6 = 6) ∧
    ∀ (b_1 : Nat),
     (b_1 = b_1 ∧ true = true ∧ 6 = 6 ∧ 6 ≤ 6) ∧
      b = b ∧
       ((0 : Int) ≤ IntKind.wrap IntKind.i64 ((↑(List.length xs) : Int) - (1 : Int)) ∧ IntKind.wrap IntKind.i64 ((↑(List.length xs) : Int) - (1 : Int)) ≤ (↑cap : Int)) ∧
        (b = b ∧ true = true ∧ 1 = 1 ∧ 1 ≤ lenN rest + 1 + 1) ∧
         (b_1 = b_1 ∧ 6 = 6) ∧
          N
           [Ent.mk (Loc.blk b)
            (SObj.cells (SV.sub 1 ao cap 6 0 (Int.toNat (IntKind.wrap IntKind.i64 ((↑(List.length xs) : Int) - (1 : Int)))) :: SV.func (Fn.func f) [] [] :: rest)
             T),
            Ent.mk (Loc.sl ao cap) (SObj.vecL (214 : TypeId) 6 encItE xs (EV.mk (0 : Int) (0 : Int) (0 : Int) ByteArray.empty ByteArray.empty, (0 : Int))),
            Ent.mk (Loc.blk b_1)
             (SObj.cells
              [SV.int IntKind.i64
               (List.getD xs (Int.toNat (IntKind.wrap IntKind.i64 ((↑(List.length xs) : Int) - (1 : Int))))
                (EV.mk (0 : Int) (0 : Int) (0 : Int) ByteArray.empty ByteArray.empty, (0 : Int))).1.1,
               SV.int IntKind.i64
                (List.getD xs (Int.toNat (IntKind.wrap IntKind.i64 ((↑(List.length xs) : Int) - (1 : Int))))
                 (EV.mk (0 : Int) (0 : Int) (0 : Int) ByteArray.empty ByteArray.empty, (0 : Int))).1.2,
               SV.int IntKind.i64
                (List.getD xs (Int.toNat (IntKind.wrap IntKind.i64 ((↑(List.length xs) : Int) - (1 : Int))))
                 (EV.mk (0 : Int) (0 : Int) (0 : Int) ByteArray.empty ByteArray.empty, (0 : Int))).1.3,
               SV.str
                (List.getD xs (Int.toNat (IntKind.wrap IntKind.i64 ((↑(List.length xs) : Int) - (1 : Int))))
                 (EV.mk (0 : Int) (0 : Int) (0 : Int) ByteArray.empty ByteArray.empty, (0 : Int))).1.4,
               SV.str
                (List.getD xs (Int.toNat (IntKind.wrap IntKind.i64 ((↑(List.length xs) : Int) - (1 : Int))))
                 (EV.mk (0 : Int) (0 : Int) (0 : Int) ByteArray.empty ByteArray.empty, (0 : Int))).1.5,
               SV.int IntKind.i64
                (List.getD xs (Int.toNat (IntKind.wrap IntKind.i64 ((↑(List.length xs) : Int) - (1 : Int))))
                 (EV.mk (0 : Int) (0 : Int) (0 : Int) ByteArray.empty ByteArray.empty, (0 : Int))).2]
              214)]
           (SV.iface 214
            (SV.agg
             [SV.int IntKind.i64
              (List.getD xs (Int.toNat (IntKind.wrap IntKind.i64 ((↑(List.length xs) : Int) - (1 : Int))))
               (EV.mk (0 : Int) (0 : Int) (0 : Int) ByteArray.empty ByteArray.empty, (0 : Int))).1.1,
              SV.int IntKind.i64
               (List.getD xs (Int.toNat (IntKind.wrap IntKind.i64 ((↑(List.length xs) : Int) - (1 : Int))))
                (EV.mk (0 : Int) (0 : Int) (0 : Int) ByteArray.empty ByteArray.empty, (0 : Int))).1.2,
              SV.int IntKind.i64
               (List.getD xs (Int.toNat (IntKind.wrap IntKind.i64 ((↑(List.length xs) : Int) - (1 : Int))))
                (EV.mk (0 : Int) (0 : Int) (0 : Int) ByteArray.empty ByteArray.empty, (0 : Int))).1.3,
              SV.str
               (List.getD xs (Int.toNat (IntKind.wrap IntKind.i64 ((↑(List.length xs) : Int) - (1 : Int))))
                (EV.mk (0 : Int) (0 : Int) (0 : Int) ByteArray.empty ByteArray.empty, (0 : Int))).1.4,
              SV.str
               (List.getD xs (Int.toNat (IntKind.wrap IntKind.i64 ((↑(List.length xs) : Int) - (1 : Int))))
                (EV.mk (0 : Int) (0 : Int) (0 : Int) ByteArray.empty ByteArray.empty, (0 : Int))).1.5,
              SV.int IntKind.i64
               (List.getD xs (Int.toNat (IntKind.wrap IntKind.i64 ((↑(List.length xs) : Int) - (1 : Int))))
                (EV.mk (0 : Int) (0 : Int) (0 : Int) ByteArray.empty ByteArray.empty, (0 : Int))).2]))) := by kernel_rfl


theorem qEplen (K : List Frm → Sy → Prop) (N : List Ent → SV → Prop) (b cap : Nat) (ao : Option Addr) (rest : List SV) (T : TypeId) (xs : List (EV × Int)) (f : FuncId) : (run Try.prog [] true [] K (retP Try.prog Try.f172.results.toList N) 900 [.code (bodyOf Try.f172)] ⟨padTo 8 [.ptr 0 b 0], qhG 214 6 encItE ((⟨0, 0, 0, ByteArray.empty, ByteArray.empty⟩ : EV), (0 : Int)) b ao cap f rest T xs⟩) = (
b = b ∧
 N
  [Ent.mk (Loc.blk b) (SObj.cells (SV.vec 1 ao (List.length xs) cap :: SV.func (Fn.func f) [] [] :: rest) T),
   Ent.mk (Loc.sl ao cap) (SObj.vecL (214 : TypeId) 6 encItE xs (EV.mk (0 : Int) (0 : Int) (0 : Int) ByteArray.empty ByteArray.empty, (0 : Int)))]
  (SV.int IntKind.i64 (↑(List.length xs) : Int))) := by kernel_rfl
end Go.Proofs.Ytkcmgcoppecfpaa

