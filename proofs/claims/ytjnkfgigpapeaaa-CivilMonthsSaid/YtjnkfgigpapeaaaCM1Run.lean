import Derived.Test.YtjnkfgigpapeaaaCMC
import Derived.Test.YtjnkfgigpapeaaaTab
namespace Go.Proofs.Ytjnkfgigpapeaaa
set_option linter.unusedVariables false
open Go Go.RowKit
set_option maxHeartbeats 0
set_option maxRecDepth 100000
set_option linter.unusedVariables false
set_option maxRecDepth 100000

theorem cm_start (K : List Frm → Sy → Prop) (N : List Ent → SV → Prop) (y m stop : Int) : (run Try.prog cmT2 true [] K (retP Try.prog Try.f4.results.toList N) 900 [.code (bodyOf Try.f4)] ⟨padTo 89 [.int .i64 y, .int .i64 m, .int .i64 stop], []⟩) = (
true = true ∧
 ∀ (b : Nat),
  true = true ∧
   ∀ (b_1 : Nat),
    true = true ∧
     true = true ∧
      ∀ (b_2 : Nat),
       true = true ∧
        ∀ (b_3 : Nat),
         true = true ∧
          19 = (19 : FuncId) ∧
           ∃ (stop_1 : Int),
            ∃ (y_1 : Int),
             ∃ (m_1 : Int),
              [Ent.mk (Loc.blk b) (SObj.cells [SV.int IntKind.i64 stop] 3), Ent.mk (Loc.blk b_1) (SObj.cells [SV.raw (Value.slice (@none Addr) 0 0)] 31),
               Ent.mk (Loc.blk b_2) (SObj.cells [SV.int IntKind.i64 y] 3), Ent.mk (Loc.blk b_3) (SObj.cells [SV.int IntKind.i64 m] 3)] =
               [Ent.mk (Loc.blk b) (SObj.cells [SV.int IntKind.i64 stop_1] (3 : TypeId)),
                Ent.mk (Loc.blk b_1) (SObj.cells [SV.raw (Value.slice (@none Addr) 0 0)] (31 : TypeId)),
                Ent.mk (Loc.blk b_2) (SObj.cells [SV.int IntKind.i64 y_1] (3 : TypeId)), Ent.mk (Loc.blk b_3) (SObj.cells [SV.int IntKind.i64 m_1] (3 : TypeId))] ∧
               ∀ (ao : Option Addr) (cap : Nat),
                match decide (y ≥ (1970 : Int)) with
                | true =>
                 match decide (y ≤ (2200 : Int)) with
                 | true =>
                  match decide (m ≥ (1 : Int)) with
                  | true =>
                   match !decide (m ≤ (12 : Int)) with
                   | true =>
                    b_1 = b_1 ∧
                     N
                      [Ent.mk (Loc.blk b) (SObj.cells [SV.int IntKind.i64 stop_1] (3 : TypeId)),
                       Ent.mk (Loc.blk b_1) (SObj.cells [SV.vec 4 ao (stopI y_1 m_1 stop_1) cap] (31 : TypeId)),
                       Ent.mk (Loc.blk b_2) (SObj.cells [SV.int IntKind.i64 y_1] (3 : TypeId)), Ent.mk (Loc.blk b_3) (SObj.cells [SV.int IntKind.i64 m_1] (3 : TypeId)),
                       Ent.mk (Loc.sl ao cap) (SObj.vecL (27 : TypeId) 3 encD (dlist y_1 m_1 (stopI y_1 m_1 stop_1)) ((0 : Int), (0 : Int), (0 : Int)))]
                      (SV.bool ((↑(stopI y_1 m_1 stop_1) : Int) == (0 : Int)))
                   | false =>
                    K (frm [] (bodyOf Try.f4) [1, 1, 1, 1, 1, 1, 0, 1, 0] [])
                     (Sy.mk
                      [SV.int IntKind.i64 y, SV.int IntKind.i64 m, SV.int IntKind.i64 stop, SV.raw (Value.tuple #[]), SV.raw (Value.tuple #[]), SV.ptr 0 b 0,
                       SV.bool false, SV.ptr 1 b_1 0, SV.bool (decide (m ≤ (12 : Int))), SV.int IntKind.i64 (0 : Int), SV.raw (Value.tuple #[]), SV.bool true,
                       SV.bool false, SV.int IntKind.i64 y, SV.int IntKind.i64 m,
                       SV.func (Fn.func 69) [] [SV.ptr 2 b_2 0, SV.ptr 3 b_3 0],
                       SV.func (Fn.func 19) [] [SV.ptr 1 b_1 0, SV.ptr 0 b 0], SV.tuple [], SV.int IntKind.i64 y,
                       SV.bool (decide (y ≥ (1970 : Int))), SV.bool true, SV.int IntKind.i64 y, SV.bool (decide (y ≤ (2200 : Int))), SV.bool (decide (y ≤ (2200 : Int))),
                       SV.bool true, SV.int IntKind.i64 m, SV.bool (decide (m ≥ (1 : Int))), SV.bool (decide (m ≥ (1 : Int))), SV.bool true, SV.int IntKind.i64 m,
                       SV.bool (decide (m ≤ (12 : Int))), SV.bool (decide (m ≤ (12 : Int))), SV.bool (decide (m ≤ (12 : Int))), SV.bool false, SV.raw (Value.tuple #[]),
                       SV.raw (Value.tuple #[]), SV.raw (Value.tuple #[]), SV.raw (Value.tuple #[]), SV.raw (Value.tuple #[]), SV.raw (Value.tuple #[]),
                       SV.raw (Value.tuple #[]), SV.raw (Value.tuple #[]), SV.raw (Value.tuple #[]), SV.raw (Value.tuple #[]), SV.raw (Value.tuple #[]),
                       SV.raw (Value.tuple #[]), SV.raw (Value.tuple #[]), SV.raw (Value.tuple #[]), SV.raw (Value.tuple #[]), SV.raw (Value.tuple #[]),
                       SV.raw (Value.tuple #[]), SV.raw (Value.tuple #[]), SV.raw (Value.tuple #[]), SV.raw (Value.tuple #[]), SV.raw (Value.tuple #[]),
                       SV.raw (Value.tuple #[]), SV.raw (Value.tuple #[]), SV.raw (Value.tuple #[]), SV.raw (Value.tuple #[]), SV.raw (Value.tuple #[]),
                       SV.raw (Value.tuple #[]), SV.raw (Value.tuple #[]), SV.raw (Value.tuple #[]), SV.raw (Value.tuple #[]), SV.raw (Value.tuple #[]),
                       SV.raw (Value.tuple #[]), SV.raw (Value.tuple #[]), SV.raw (Value.tuple #[]), SV.raw (Value.tuple #[]), SV.raw (Value.tuple #[]),
                       SV.raw (Value.tuple #[]), SV.raw (Value.tuple #[]), SV.raw (Value.tuple #[]), SV.raw (Value.tuple #[]), SV.raw (Value.tuple #[]),
                       SV.raw (Value.tuple #[]), SV.raw (Value.tuple #[]), SV.raw (Value.tuple #[]), SV.raw (Value.tuple #[]), SV.raw (Value.tuple #[]),
                       SV.raw (Value.tuple #[]), SV.raw (Value.tuple #[]), SV.raw (Value.tuple #[]), SV.raw (Value.tuple #[]), SV.raw (Value.tuple #[]),
                       SV.raw (Value.tuple #[]), SV.raw (Value.tuple #[]), SV.raw (Value.tuple #[]), SV.raw (Value.tuple #[])]
                      [Ent.mk (Loc.blk b) (SObj.cells [SV.int IntKind.i64 stop_1] (3 : TypeId)),
                       Ent.mk (Loc.blk b_1) (SObj.cells [SV.vec 4 ao (stopI y_1 m_1 stop_1) cap] (31 : TypeId)),
                       Ent.mk (Loc.blk b_2) (SObj.cells [SV.int IntKind.i64 y_1] (3 : TypeId)), Ent.mk (Loc.blk b_3) (SObj.cells [SV.int IntKind.i64 m_1] (3 : TypeId)),
                       Ent.mk (Loc.sl ao cap) (SObj.vecL (27 : TypeId) 3 encD (dlist y_1 m_1 (stopI y_1 m_1 stop_1)) ((0 : Int), (0 : Int), (0 : Int)))])
                  | false =>
                   b_1 = b_1 ∧
                    N
                     [Ent.mk (Loc.blk b) (SObj.cells [SV.int IntKind.i64 stop_1] (3 : TypeId)),
                      Ent.mk (Loc.blk b_1) (SObj.cells [SV.vec 4 ao (stopI y_1 m_1 stop_1) cap] (31 : TypeId)),
                      Ent.mk (Loc.blk b_2) (SObj.cells [SV.int IntKind.i64 y_1] (3 : TypeId)), Ent.mk (Loc.blk b_3) (SObj.cells [SV.int IntKind.i64 m_1] (3 : TypeId)),
                      Ent.mk (Loc.sl ao cap) (SObj.vecL (27 : TypeId) 3 encD (dlist y_1 m_1 (stopI y_1 m_1 stop_1)) ((0 : Int), (0 : Int), (0 : Int)))]
                     (SV.bool ((↑(stopI y_1 m_1 stop_1) : Int) == (0 : Int)))
                 | false =>
                  b_1 = b_1 ∧
                   N
                    [Ent.mk (Loc.blk b) (SObj.cells [SV.int IntKind.i64 stop_1] (3 : TypeId)),
                     Ent.mk (Loc.blk b_1) (SObj.cells [SV.vec 4 ao (stopI y_1 m_1 stop_1) cap] (31 : TypeId)),
                     Ent.mk (Loc.blk b_2) (SObj.cells [SV.int IntKind.i64 y_1] (3 : TypeId)), Ent.mk (Loc.blk b_3) (SObj.cells [SV.int IntKind.i64 m_1] (3 : TypeId)),
                     Ent.mk (Loc.sl ao cap) (SObj.vecL (27 : TypeId) 3 encD (dlist y_1 m_1 (stopI y_1 m_1 stop_1)) ((0 : Int), (0 : Int), (0 : Int)))]
                    (SV.bool ((↑(stopI y_1 m_1 stop_1) : Int) == (0 : Int)))
                | false =>
                 b_1 = b_1 ∧
                  N
                   [Ent.mk (Loc.blk b) (SObj.cells [SV.int IntKind.i64 stop_1] (3 : TypeId)),
                    Ent.mk (Loc.blk b_1) (SObj.cells [SV.vec 4 ao (stopI y_1 m_1 stop_1) cap] (31 : TypeId)),
                    Ent.mk (Loc.blk b_2) (SObj.cells [SV.int IntKind.i64 y_1] (3 : TypeId)), Ent.mk (Loc.blk b_3) (SObj.cells [SV.int IntKind.i64 m_1] (3 : TypeId)),
                    Ent.mk (Loc.sl ao cap) (SObj.vecL (27 : TypeId) 3 encD (dlist y_1 m_1 (stopI y_1 m_1 stop_1)) ((0 : Int), (0 : Int), (0 : Int)))]
                   (SV.bool ((↑(stopI y_1 m_1 stop_1) : Int) == (0 : Int)))) := by kernel_rfl


theorem cm_m1 (K : List Frm → Sy → Prop) (X : Code → Sy → Prop) (E : Sy → Prop) (stop y m : Int) (b5 b7 bY bm : Nat) : (runR Try.prog cmT1 noY true [] K X E 300 [.code (bodyOf Try.f69)] ⟨padTo 17 [cmY b5 b7, .ptr 2 bY 0, .ptr 3 bm 0], cmHeap stop y m b5 b7 bY bm 0 none 0⟩) = (
true = true ∧
 ∀ (b : Nat),
  bY = bY ∧
   bm = bm ∧
    true = true ∧
     true = true ∧
      true = true ∧
       ∀ (b_1 : Nat),
        K (frm [] (bodyOf Try.f69) [1, 1, 0] [])
         (Sy.mk
          [SV.func (Fn.func (19 : FuncId)) [] [SV.ptr 1 b7 0, SV.ptr 0 b5 0], SV.ptr 2 bY 0, SV.ptr 3 bm 0,
           SV.ptr 5 b 0, SV.raw (Value.tuple #[]), SV.int IntKind.i64 y, SV.int IntKind.i64 m, SV.int IntKind.i64 (lenI y m),
           SV.func (Fn.func 98) [] [SV.ptr 6 b_1 0], SV.raw (Value.tuple #[]), SV.raw (Value.tuple #[]), SV.raw (Value.tuple #[]), SV.raw (Value.tuple #[]),
           SV.raw (Value.tuple #[]), SV.raw (Value.tuple #[]), SV.raw (Value.tuple #[]), SV.raw (Value.tuple #[])]
          [Ent.mk (Loc.blk b5) (SObj.cells [SV.int IntKind.i64 stop] (3 : TypeId)), Ent.mk (Loc.blk b7) (SObj.cells [SV.vec 4 (@none Addr) 0 0] (31 : TypeId)),
           Ent.mk (Loc.blk bY) (SObj.cells [SV.int IntKind.i64 y] (3 : TypeId)), Ent.mk (Loc.blk bm) (SObj.cells [SV.int IntKind.i64 m] (3 : TypeId)),
           Ent.mk (Loc.sl (@none Addr) 0) (SObj.vecL (27 : TypeId) 3 encD (dlist y m 0) ((0 : Int), (0 : Int), (0 : Int))),
           Ent.mk (Loc.blk b) (SObj.cells [SV.func (Fn.func (19 : FuncId)) [] [SV.ptr 1 b7 0, SV.ptr 0 b5 0]] 29),
           Ent.mk (Loc.blk b_1) (SObj.cells [SV.int IntKind.i64 (lenI y m)] 3)])) := by kernel_rfl
end Go.Proofs.Ytjnkfgigpapeaaa
