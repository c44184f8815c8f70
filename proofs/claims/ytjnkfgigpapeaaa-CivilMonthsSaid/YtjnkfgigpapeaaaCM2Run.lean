import Derived.Test.YtjnkfgigpapeaaaCMC
import Derived.Test.YtjnkfgigpapeaaaTab
namespace Go.Proofs.Ytjnkfgigpapeaaa
set_option linter.unusedVariables false
open Go Go.RowKit
set_option maxHeartbeats 0
set_option maxRecDepth 100000
set_option linter.unusedVariables false
set_option maxRecDepth 100000

theorem cm_asg (K : List Frm → Sy → Prop) (X : Code → Sy → Prop) (E : Sy → Prop) (u : Nat → Value) (stop y m : Int) (b5 b7 bY bm bt bn D l : Nat) (rc : Loop) (k : Nat) (ao : Option Addr) (cap : Nat) (day : Int) : (runR Try.prog cmT1 noY true [] K X E 60 [.code (rfA (codeAt (bodyOf Try.f69) [1, 1, 0]))] ⟨mkT u 17 0 [(1, .ptr 2 bY 0), (2, .ptr 3 bm 0), (3, .ptr 5 bt 0), (9, .int .i64 day)], cmHeapR stop y m b5 b7 bY bm bt bn D l rc .ready none k ao cap⟩) = (
E
 (Sy.mk
  [SV.raw (u 0), SV.ptr 2 bY 0, SV.ptr 3 bm 0, SV.ptr 5 bt 0, SV.int IntKind.i64 day, SV.raw (u 5), SV.raw (u 6),
   SV.raw (u 7), SV.raw (u 8), SV.int IntKind.i64 day, SV.raw (u 10), SV.raw (u 11), SV.raw (u 12), SV.raw (u 13), SV.raw (u 14),
   SV.raw (u 15), SV.raw (u 16)]
  [Ent.mk (Loc.blk b5) (SObj.cells [SV.int IntKind.i64 stop] (3 : TypeId)), Ent.mk (Loc.blk b7) (SObj.cells [SV.vec 4 ao k cap] (31 : TypeId)),
   Ent.mk (Loc.blk bY) (SObj.cells [SV.int IntKind.i64 y] (3 : TypeId)), Ent.mk (Loc.blk bm) (SObj.cells [SV.int IntKind.i64 m] (3 : TypeId)),
   Ent.mk (Loc.sl ao cap) (SObj.vecL (27 : TypeId) 3 encD (dlist y m k) ((0 : Int), (0 : Int), (0 : Int))),
   Ent.mk (Loc.blk bt) (SObj.cells [SV.func (Fn.func (19 : FuncId)) [] [SV.ptr 1 b7 0, SV.ptr 0 b5 0]] (29 : TypeId)),
   Ent.mk (Loc.blk bn) (SObj.cells [SV.int IntKind.i64 (lenI y m)] (3 : TypeId)), dent D true, lp l rc LoopState.ready (@none Code)])) := by kernel_rfl


theorem cm_body (K : List Frm → Sy → Prop) (X : Code → Sy → Prop) (E : Sy → Prop) (u : Nat → Value) (stop y m : Int) (b5 b7 bY bm bt bn D l : Nat) (rc : Loop) (k : Nat) (ao : Option Addr) (cap : Nat) (day : Int) : (runR Try.prog cmT1 noY true [] K X E 300 [.code (rfB (codeAt (bodyOf Try.f69) [1, 1, 0]))] ⟨mkT u 17 0 [(1, .ptr 2 bY 0), (2, .ptr 3 bm 0), (3, .ptr 5 bt 0), (4, .int .i64 day)], cmHeapR stop y m b5 b7 bY bm bt bn D l rc .busy none k ao cap⟩) = (
bt = bt ∧
 bY = bY ∧
  bm = bm ∧
   (true = true ∧ true = true) ∧
    true = true ∧
     true = true ∧
      ∀ (b : Nat),
       b7 = b7 ∧
        (b = b ∧ 3 = 3) ∧
         (true = true ∧ 3 = 3 ∧ 0 < 3 ∧ 3 ≤ 16777216) ∧
          ∀ (b_1 : Nat),
           (ao = ao ∧
            cap = cap ∧
             k = List.length (dlist y m k) ∧
              some (Addr.mk b_1 0 (@none Nat)) = some (Addr.mk b_1 0 (@none Nat)) ∧
               (27 : TypeId) = 27 ∧
                3 = 3 ∧
                 3 = 3 ∧
                  0 < 1 ∧ true = true ∧ (k + 1) * 24 ≤ 140737488355328 ∧ k + 1 ≤ 9223372036854775807) ∧
            ∃ (es : List (Int × Int × Int)),
             List.length es = 1 ∧
              List.flatMap encD es = [SV.int IntKind.i64 y, SV.int IntKind.i64 m, SV.int IntKind.i64 day] ∧
               ∀ (ao2 : Option Addr) (cap2 : Nat),
                k + 1 ≤ cap2 →
                 (b7 = b7 ∧ true = true ∧ 1 = 1 ∧ 1 ≤ 1) ∧
                  b7 = b7 ∧
                   b5 = b5 ∧
                    match (↑(k + 1) : Int) != stop with
                    | true =>
                     b7 = b7 ∧
                      match !decide ((↑(k + 1) : Int) < (40 : Int)) with
                      | true =>
                       X Code.ret
                        (Sy.mk
                         [SV.raw (u 0), SV.ptr 2 bY 0, SV.ptr 3 bm 0, SV.ptr 5 bt 0, SV.int IntKind.i64 day,
                          SV.raw (u 5), SV.raw (u 6), SV.raw (u 7), SV.raw (u 8), SV.raw (u 9),
                          SV.func (Fn.func (19 : FuncId)) [] [SV.ptr 1 b7 0, SV.ptr 0 b5 0], SV.int IntKind.i64 y, SV.int IntKind.i64 m,
                          SV.int IntKind.i64 day, SV.agg [SV.int IntKind.i64 y, SV.int IntKind.i64 m, SV.int IntKind.i64 day],
                          SV.bool (decide ((↑(k + 1) : Int) < (40 : Int))), SV.bool true]
                         [Ent.mk (Loc.blk b5) (SObj.cells [SV.int IntKind.i64 stop] (3 : TypeId)),
                          Ent.mk (Loc.blk b7) (SObj.cells [SV.vec 4 ao2 (k + 1) cap2] (31 : TypeId)),
                          Ent.mk (Loc.blk bY) (SObj.cells [SV.int IntKind.i64 y] (3 : TypeId)), Ent.mk (Loc.blk bm) (SObj.cells [SV.int IntKind.i64 m] (3 : TypeId)),
                          Ent.mk (Loc.sl ao2 cap2) (SObj.vecL (27 : TypeId) 3 encD (dlist y m k ++ es) ((0 : Int), (0 : Int), (0 : Int))),
                          Ent.mk (Loc.blk bt) (SObj.cells [SV.func (Fn.func (19 : FuncId)) [] [SV.ptr 1 b7 0, SV.ptr 0 b5 0]] (29 : TypeId)),
                          Ent.mk (Loc.blk bn) (SObj.cells [SV.int IntKind.i64 (lenI y m)] (3 : TypeId)), dent D true, lp l rc LoopState.busy (@none Code),
                          Ent.mk (Loc.blk b) (SObj.cells [SV.int IntKind.i64 y, SV.int IntKind.i64 m, SV.int IntKind.i64 day] 27),
                          Ent.mk (Loc.blk b_1) (SObj.cells [SV.int IntKind.i64 y, SV.int IntKind.i64 m, SV.int IntKind.i64 day] 27)])
                      | false =>
                       E
                        (Sy.mk
                         [SV.raw (u 0), SV.ptr 2 bY 0, SV.ptr 3 bm 0, SV.ptr 5 bt 0, SV.int IntKind.i64 day,
                          SV.raw (u 5), SV.raw (u 6), SV.raw (u 7), SV.raw (u 8), SV.raw (u 9),
                          SV.func (Fn.func (19 : FuncId)) [] [SV.ptr 1 b7 0, SV.ptr 0 b5 0], SV.int IntKind.i64 y, SV.int IntKind.i64 m,
                          SV.int IntKind.i64 day, SV.agg [SV.int IntKind.i64 y, SV.int IntKind.i64 m, SV.int IntKind.i64 day],
                          SV.bool (decide ((↑(k + 1) : Int) < (40 : Int))), SV.bool false]
                         [Ent.mk (Loc.blk b5) (SObj.cells [SV.int IntKind.i64 stop] (3 : TypeId)),
                          Ent.mk (Loc.blk b7) (SObj.cells [SV.vec 4 ao2 (k + 1) cap2] (31 : TypeId)),
                          Ent.mk (Loc.blk bY) (SObj.cells [SV.int IntKind.i64 y] (3 : TypeId)), Ent.mk (Loc.blk bm) (SObj.cells [SV.int IntKind.i64 m] (3 : TypeId)),
                          Ent.mk (Loc.sl ao2 cap2) (SObj.vecL (27 : TypeId) 3 encD (dlist y m k ++ es) ((0 : Int), (0 : Int), (0 : Int))),
                          Ent.mk (Loc.blk bt) (SObj.cells [SV.func (Fn.func (19 : FuncId)) [] [SV.ptr 1 b7 0, SV.ptr 0 b5 0]] (29 : TypeId)),
                          Ent.mk (Loc.blk bn) (SObj.cells [SV.int IntKind.i64 (lenI y m)] (3 : TypeId)), dent D true, lp l rc LoopState.busy (@none Code),
                          Ent.mk (Loc.blk b) (SObj.cells [SV.int IntKind.i64 y, SV.int IntKind.i64 m, SV.int IntKind.i64 day] 27),
                          Ent.mk (Loc.blk b_1) (SObj.cells [SV.int IntKind.i64 y, SV.int IntKind.i64 m, SV.int IntKind.i64 day] 27)])
                    | false =>
                     X Code.ret
                      (Sy.mk
                       [SV.raw (u 0), SV.ptr 2 bY 0, SV.ptr 3 bm 0, SV.ptr 5 bt 0, SV.int IntKind.i64 day,
                        SV.raw (u 5), SV.raw (u 6), SV.raw (u 7), SV.raw (u 8), SV.raw (u 9),
                        SV.func (Fn.func (19 : FuncId)) [] [SV.ptr 1 b7 0, SV.ptr 0 b5 0], SV.int IntKind.i64 y, SV.int IntKind.i64 m,
                        SV.int IntKind.i64 day, SV.agg [SV.int IntKind.i64 y, SV.int IntKind.i64 m, SV.int IntKind.i64 day], SV.bool false, SV.bool true]
                       [Ent.mk (Loc.blk b5) (SObj.cells [SV.int IntKind.i64 stop] (3 : TypeId)),
                        Ent.mk (Loc.blk b7) (SObj.cells [SV.vec 4 ao2 (k + 1) cap2] (31 : TypeId)),
                        Ent.mk (Loc.blk bY) (SObj.cells [SV.int IntKind.i64 y] (3 : TypeId)), Ent.mk (Loc.blk bm) (SObj.cells [SV.int IntKind.i64 m] (3 : TypeId)),
                        Ent.mk (Loc.sl ao2 cap2) (SObj.vecL (27 : TypeId) 3 encD (dlist y m k ++ es) ((0 : Int), (0 : Int), (0 : Int))),
                        Ent.mk (Loc.blk bt) (SObj.cells [SV.func (Fn.func (19 : FuncId)) [] [SV.ptr 1 b7 0, SV.ptr 0 b5 0]] (29 : TypeId)),
                        Ent.mk (Loc.blk bn) (SObj.cells [SV.int IntKind.i64 (lenI y m)] (3 : TypeId)), dent D true, lp l rc LoopState.busy (@none Code),
                        Ent.mk (Loc.blk b) (SObj.cells [SV.int IntKind.i64 y, SV.int IntKind.i64 m, SV.int IntKind.i64 day] 27),
                        Ent.mk (Loc.blk b_1) (SObj.cells [SV.int IntKind.i64 y, SV.int IntKind.i64 m, SV.int IntKind.i64 day] 27)])) := by kernel_rfl


theorem cm_d1 (K : List Frm → Sy → Prop) (X : Code → Sy → Prop) (E : Sy → Prop) (stop y m : Int) (b5 b7 bY bm bt bn D l : Nat) (rc : Loop) : (runR Try.prog cmT1 (cmYC stop y m b5 b7 bY bm bt bn D l rc) true [] K X E 300 [.code (bodyOf Try.f98)] ⟨padTo 14 [.func (.yield l) [] [], .ptr 6 bn 0], cmHeapR stop y m b5 b7 bY bm bt bn D l rc .ready none 0 none 0⟩) = (
bn = bn ∧
 K (frm [] (bodyOf Try.f98) [1, 0] [])
  (Sy.mk
   [SV.func (Fn.yield l) [] [], SV.ptr 6 bn 0, SV.raw (Value.tuple #[]), SV.raw (Value.tuple #[]), SV.int IntKind.i64 (lenI y m), SV.int IntKind.i64 (0 : Int),
    SV.raw (Value.tuple #[]), SV.raw (Value.tuple #[]), SV.raw (Value.tuple #[]), SV.raw (Value.tuple #[]), SV.raw (Value.tuple #[]), SV.raw (Value.tuple #[]), SV.raw (Value.tuple #[]),
    SV.raw (Value.tuple #[])]
   [Ent.mk (Loc.blk b5) (SObj.cells [SV.int IntKind.i64 stop] (3 : TypeId)), Ent.mk (Loc.blk b7) (SObj.cells [SV.vec 4 (@none Addr) 0 0] (31 : TypeId)),
    Ent.mk (Loc.blk bY) (SObj.cells [SV.int IntKind.i64 y] (3 : TypeId)), Ent.mk (Loc.blk bm) (SObj.cells [SV.int IntKind.i64 m] (3 : TypeId)),
    Ent.mk (Loc.sl (@none Addr) 0) (SObj.vecL (27 : TypeId) 3 encD (dlist y m 0) ((0 : Int), (0 : Int), (0 : Int))),
    Ent.mk (Loc.blk bt) (SObj.cells [SV.func (Fn.func (19 : FuncId)) [] [SV.ptr 1 b7 0, SV.ptr 0 b5 0]] (29 : TypeId)),
    Ent.mk (Loc.blk bn) (SObj.cells [SV.int IntKind.i64 (lenI y m)] (3 : TypeId)), dent D true, lp l rc LoopState.ready (@none Code)])) := by kernel_rfl


theorem cm_d2 (K : List Frm → Sy → Prop) (X : Code → Sy → Prop) (E : Sy → Prop) (J : Act → World → Prop) (u : Nat → Value) (stop y m : Int) (b5 b7 bY bm bt bn D l : Nat) (rc : Loop) (k : Nat) (ao : Option Addr) (cap : Nat) : (runR Try.prog cmT1 (cmYC stop y m b5 b7 bY bm bt bn D l rc) true [] K X E 300 (frm [J] (bodyOf Try.f98) [1, 0, 0] []) ⟨mkT u 14 0 [(0, .func (.yield l) [] []), (4, .int .i64 (lenI y m)), (5, .int .i64 k)], cmHeapR stop y m b5 b7 bY bm bt bn D l rc .ready none k ao cap⟩) = (
match decide ((↑k : Int) < lenI y m) with
| true =>
 l = l ∧
  ∃ (k_1 : Nat),
   ∃ (ao_1 : Option Addr),
    ∃ (cap_1 : Nat),
     (↑k_1 : Int) + (1 : Int) ≤ lenI y m ∧
      [SV.int IntKind.i64 (IntKind.wrap IntKind.i64 ((↑k : Int) + (1 : Int)))] = [SV.int IntKind.i64 ((↑k_1 : Int) + (1 : Int))] ∧
       [Ent.mk (Loc.blk b5) (SObj.cells [SV.int IntKind.i64 stop] (3 : TypeId)), Ent.mk (Loc.blk b7) (SObj.cells [SV.vec 4 ao k cap] (31 : TypeId)),
        Ent.mk (Loc.blk bY) (SObj.cells [SV.int IntKind.i64 y] (3 : TypeId)), Ent.mk (Loc.blk bm) (SObj.cells [SV.int IntKind.i64 m] (3 : TypeId)),
        Ent.mk (Loc.sl ao cap) (SObj.vecL (27 : TypeId) 3 encD (dlist y m k) ((0 : Int), (0 : Int), (0 : Int))),
        Ent.mk (Loc.blk bt) (SObj.cells [SV.func (Fn.func (19 : FuncId)) [] [SV.ptr 1 b7 0, SV.ptr 0 b5 0]] (29 : TypeId)),
        Ent.mk (Loc.blk bn) (SObj.cells [SV.int IntKind.i64 (lenI y m)] (3 : TypeId)), dent D true, lp l rc LoopState.ready (@none Code)] =
        [Ent.mk (Loc.blk b5) (SObj.cells [SV.int IntKind.i64 stop] (3 : TypeId)), Ent.mk (Loc.blk b7) (SObj.cells [SV.vec 4 ao_1 k_1 cap_1] (31 : TypeId)),
         Ent.mk (Loc.blk bY) (SObj.cells [SV.int IntKind.i64 y] (3 : TypeId)), Ent.mk (Loc.blk bm) (SObj.cells [SV.int IntKind.i64 m] (3 : TypeId)),
         Ent.mk (Loc.sl ao_1 cap_1) (SObj.vecL (27 : TypeId) 3 encD (dlist y m k_1) ((0 : Int), (0 : Int), (0 : Int))),
         Ent.mk (Loc.blk bt) (SObj.cells [SV.func (Fn.func (19 : FuncId)) [] [SV.ptr 1 b7 0, SV.ptr 0 b5 0]] (29 : TypeId)),
         Ent.mk (Loc.blk bn) (SObj.cells [SV.int IntKind.i64 (lenI y m)] (3 : TypeId)), dent D true, lp l rc LoopState.ready (@none Code)] ∧
        ((↑k_1 : Int) + (1 : Int) ≠ stop →
         ∀ (ao' : Option Addr) (cap' : Nat),
          K [Frm.loop J, Frm.blk 0]
           (Sy.mk
            [SV.func (Fn.yield l) [] [], SV.raw (u 1), SV.raw (u 2), SV.int IntKind.i64 (↑k : Int), SV.int IntKind.i64 (lenI y m),
             SV.int IntKind.i64 (IntKind.wrap IntKind.i64 ((↑k : Int) + (1 : Int))), SV.bool true, SV.int IntKind.i64 (↑k : Int), SV.func (Fn.yield l) [] [],
             SV.int IntKind.i64 (↑k : Int), SV.int IntKind.i64 (IntKind.wrap IntKind.i64 ((↑k : Int) + (1 : Int))), SV.bool true, SV.bool false,
             SV.int IntKind.i64 (IntKind.wrap IntKind.i64 ((↑k : Int) + (1 : Int)))]
            [Ent.mk (Loc.blk b5) (SObj.cells [SV.int IntKind.i64 stop] (3 : TypeId)), Ent.mk (Loc.blk b7) (SObj.cells [SV.vec 4 ao' (k_1 + 1) cap'] (31 : TypeId)),
             Ent.mk (Loc.blk bY) (SObj.cells [SV.int IntKind.i64 y] (3 : TypeId)), Ent.mk (Loc.blk bm) (SObj.cells [SV.int IntKind.i64 m] (3 : TypeId)),
             Ent.mk (Loc.sl ao' cap') (SObj.vecL (27 : TypeId) 3 encD (dlist y m (k_1 + 1)) ((0 : Int), (0 : Int), (0 : Int))),
             Ent.mk (Loc.blk bt) (SObj.cells [SV.func (Fn.func (19 : FuncId)) [] [SV.ptr 1 b7 0, SV.ptr 0 b5 0]] (29 : TypeId)),
             Ent.mk (Loc.blk bn) (SObj.cells [SV.int IntKind.i64 (lenI y m)] (3 : TypeId)), dent D true, lp l rc LoopState.ready (@none Code)])) ∧
         ((↑k_1 : Int) + (1 : Int) = stop →
          ∀ (ao' : Option Addr) (cap' : Nat),
           X Code.ret
            (Sy.mk
             [SV.func (Fn.yield l) [] [], SV.raw (u 1), SV.raw (u 2), SV.int IntKind.i64 (↑k : Int), SV.int IntKind.i64 (lenI y m), SV.int IntKind.i64 (↑k : Int),
              SV.bool true, SV.int IntKind.i64 (↑k : Int), SV.func (Fn.yield l) [] [], SV.int IntKind.i64 (↑k : Int),
              SV.int IntKind.i64 (IntKind.wrap IntKind.i64 ((↑k : Int) + (1 : Int))), SV.bool false, SV.bool true, SV.raw (u 13)]
             [Ent.mk (Loc.blk b5) (SObj.cells [SV.int IntKind.i64 stop] (3 : TypeId)), Ent.mk (Loc.blk b7) (SObj.cells [SV.vec 4 ao' (k_1 + 1) cap'] (31 : TypeId)),
              Ent.mk (Loc.blk bY) (SObj.cells [SV.int IntKind.i64 y] (3 : TypeId)), Ent.mk (Loc.blk bm) (SObj.cells [SV.int IntKind.i64 m] (3 : TypeId)),
              Ent.mk (Loc.sl ao' cap') (SObj.vecL (27 : TypeId) 3 encD (dlist y m (k_1 + 1)) ((0 : Int), (0 : Int), (0 : Int))),
              Ent.mk (Loc.blk bt) (SObj.cells [SV.func (Fn.func (19 : FuncId)) [] [SV.ptr 1 b7 0, SV.ptr 0 b5 0]] (29 : TypeId)),
              Ent.mk (Loc.blk bn) (SObj.cells [SV.int IntKind.i64 (lenI y m)] (3 : TypeId)), dent D true, lp l rc LoopState.done (some Code.ret)]))
| false =>
 E
  (Sy.mk
   [SV.func (Fn.yield l) [] [], SV.raw (u 1), SV.raw (u 2), SV.raw (u 3), SV.int IntKind.i64 (lenI y m), SV.int IntKind.i64 (↑k : Int), SV.bool false, SV.raw (u 7),
    SV.raw (u 8), SV.raw (u 9), SV.raw (u 10), SV.raw (u 11), SV.raw (u 12), SV.raw (u 13)]
   [Ent.mk (Loc.blk b5) (SObj.cells [SV.int IntKind.i64 stop] (3 : TypeId)), Ent.mk (Loc.blk b7) (SObj.cells [SV.vec 4 ao k cap] (31 : TypeId)),
    Ent.mk (Loc.blk bY) (SObj.cells [SV.int IntKind.i64 y] (3 : TypeId)), Ent.mk (Loc.blk bm) (SObj.cells [SV.int IntKind.i64 m] (3 : TypeId)),
    Ent.mk (Loc.sl ao cap) (SObj.vecL (27 : TypeId) 3 encD (dlist y m k) ((0 : Int), (0 : Int), (0 : Int))),
    Ent.mk (Loc.blk bt) (SObj.cells [SV.func (Fn.func (19 : FuncId)) [] [SV.ptr 1 b7 0, SV.ptr 0 b5 0]] (29 : TypeId)),
    Ent.mk (Loc.blk bn) (SObj.cells [SV.int IntKind.i64 (lenI y m)] (3 : TypeId)), dent D true, lp l rc LoopState.ready (@none Code)])) := by kernel_rfl


theorem cm_l (K : List Frm → Sy → Prop) (N : List Ent → SV → Prop) (J : Act → World → Prop) (u : Nat → Value) (stop y m : Int) (b5 b7 bY bm : Nat) (k : Nat) (ao : Option Addr) (cap : Nat) (i : Int) : (run Try.prog cmT2 true [] K (retP Try.prog Try.f4.results.toList N) 900 (frm [J] (bodyOf Try.f4) [1, 1, 1, 1, 1, 1, 0, 1, 0, 0] []) ⟨mkT u 89 0 [(0, .int .i64 y), (1, .int .i64 m), (5, .ptr 0 b5 0), (6, .bool false), (7, .ptr 1 b7 0), (9, .int .i64 i)], cmHeap stop y m b5 b7 bY bm k ao cap⟩) = (
b7 = b7 ∧
 match decide (i < (↑k : Int)) with
 | true =>
  b7 = b7 ∧
   (ao = ao ∧ cap = cap ∧ k = List.length (dlist y m k) ∧ (0 : Int) ≤ i ∧ i < (↑k : Int)) ∧
    (Addr.blkD ao = Addr.blkD ao ∧ Addr.offD ao = Addr.offD ao ∧ 3 = 3 ∧ Int.toNat i < List.length (dlist y m k) ∧ 3 = 3) ∧
     (true = true ∧ true = true) ∧
      match
       !((List.getD (dlist y m k) (Int.toNat i) ((0 : Int), (0 : Int), (0 : Int))).1 == y &&
        ((List.getD (dlist y m k) (Int.toNat i) ((0 : Int), (0 : Int), (0 : Int))).2.1 == m &&
         ((List.getD (dlist y m k) (Int.toNat i) ((0 : Int), (0 : Int), (0 : Int))).2.2 == IntKind.wrap IntKind.i64 (i + (1 : Int)) && true))) with
      | true =>
       N
        [Ent.mk (Loc.blk b5) (SObj.cells [SV.int IntKind.i64 stop] (3 : TypeId)), Ent.mk (Loc.blk b7) (SObj.cells [SV.vec 4 ao k cap] (31 : TypeId)),
         Ent.mk (Loc.blk bY) (SObj.cells [SV.int IntKind.i64 y] (3 : TypeId)), Ent.mk (Loc.blk bm) (SObj.cells [SV.int IntKind.i64 m] (3 : TypeId)),
         Ent.mk (Loc.sl ao cap) (SObj.vecL (27 : TypeId) 3 encD (dlist y m k) ((0 : Int), (0 : Int), (0 : Int)))]
        (SV.bool false)
      | false =>
       b7 = b7 ∧
        (ao = ao ∧ cap = cap ∧ k = List.length (dlist y m k) ∧ (0 : Int) ≤ i ∧ i < (↑k : Int)) ∧
         (Addr.blkD ao = Addr.blkD ao ∧ Addr.offD ao = Addr.offD ao ∧ 3 = 3 ∧ Int.toNat i < List.length (dlist y m k) ∧ 3 = 3) ∧
          true = true ∧
           match
            !isB (List.getD (dlist y m k) (Int.toNat i) ((0 : Int), (0 : Int), (0 : Int))).1 (List.getD (dlist y m k) (Int.toNat i) ((0 : Int), (0 : Int), (0 : Int))).2.1
             (List.getD (dlist y m k) (Int.toNat i) ((0 : Int), (0 : Int), (0 : Int))).2.2 with
           | true =>
            N
             [Ent.mk (Loc.blk b5) (SObj.cells [SV.int IntKind.i64 stop] (3 : TypeId)), Ent.mk (Loc.blk b7) (SObj.cells [SV.vec 4 ao k cap] (31 : TypeId)),
              Ent.mk (Loc.blk bY) (SObj.cells [SV.int IntKind.i64 y] (3 : TypeId)), Ent.mk (Loc.blk bm) (SObj.cells [SV.int IntKind.i64 m] (3 : TypeId)),
              Ent.mk (Loc.sl ao cap) (SObj.vecL (27 : TypeId) 3 encD (dlist y m k) ((0 : Int), (0 : Int), (0 : Int)))]
             (SV.bool false)
           | false =>
            K (Frm.loop J :: Frm.blk 0 :: frm [] (bodyOf Try.f4) [1, 1, 1, 1, 1, 1, 1] [])
             (Sy.mk
              [SV.int IntKind.i64 y, SV.int IntKind.i64 m, SV.raw (u 2), SV.raw (u 3), SV.raw (u 4), SV.ptr 0 b5 0, SV.bool false,
               SV.ptr 1 b7 0, SV.raw (u 8), SV.int IntKind.i64 (IntKind.wrap IntKind.i64 (i + (1 : Int))), SV.raw (u 10), SV.raw (u 11),
               SV.raw (u 12), SV.raw (u 13), SV.raw (u 14), SV.raw (u 15), SV.raw (u 16), SV.raw (u 17), SV.raw (u 18),
               SV.raw (u 19), SV.raw (u 20), SV.raw (u 21), SV.raw (u 22), SV.raw (u 23), SV.raw (u 24), SV.raw (u 25),
               SV.raw (u 26), SV.raw (u 27), SV.raw (u 28), SV.raw (u 29), SV.raw (u 30), SV.raw (u 31), SV.raw (u 32),
               SV.raw (u 33), SV.raw (u 34), SV.raw (u 35), SV.raw (u 36), SV.int IntKind.i64 i, SV.vec 4 ao k cap,
               SV.int IntKind.i64 (↑k : Int), SV.bool true, SV.int IntKind.i64 i, SV.int IntKind.i64 (IntKind.wrap IntKind.i64 (i + (1 : Int))), SV.vec 4 ao k cap,
               SV.int IntKind.i64 i, SV.eptr 4 (Addr.blkD ao) (Addr.offD ao) 3 (Int.toNat i) 0,
               SV.agg
                [SV.int IntKind.i64 (List.getD (dlist y m k) (Int.toNat i) ((0 : Int), (0 : Int), (0 : Int))).1,
                 SV.int IntKind.i64 (List.getD (dlist y m k) (Int.toNat i) ((0 : Int), (0 : Int), (0 : Int))).2.1,
                 SV.int IntKind.i64 (List.getD (dlist y m k) (Int.toNat i) ((0 : Int), (0 : Int), (0 : Int))).2.2],
               SV.int IntKind.i64 y, SV.int IntKind.i64 m, SV.int IntKind.i64 i, SV.int IntKind.i64 (IntKind.wrap IntKind.i64 (i + (1 : Int))),
               SV.agg [SV.int IntKind.i64 y, SV.int IntKind.i64 m, SV.int IntKind.i64 (IntKind.wrap IntKind.i64 (i + (1 : Int)))],
               SV.bool
                !((List.getD (dlist y m k) (Int.toNat i) ((0 : Int), (0 : Int), (0 : Int))).1 == y &&
                 ((List.getD (dlist y m k) (Int.toNat i) ((0 : Int), (0 : Int), (0 : Int))).2.1 == m &&
                  ((List.getD (dlist y m k) (Int.toNat i) ((0 : Int), (0 : Int), (0 : Int))).2.2 == IntKind.wrap IntKind.i64 (i + (1 : Int)) && true))),
               SV.bool false, SV.vec 4 ao k cap, SV.int IntKind.i64 i, SV.eptr 4 (Addr.blkD ao) (Addr.offD ao) 3 (Int.toNat i) 0,
               SV.agg
                [SV.int IntKind.i64 (List.getD (dlist y m k) (Int.toNat i) ((0 : Int), (0 : Int), (0 : Int))).1,
                 SV.int IntKind.i64 (List.getD (dlist y m k) (Int.toNat i) ((0 : Int), (0 : Int), (0 : Int))).2.1,
                 SV.int IntKind.i64 (List.getD (dlist y m k) (Int.toNat i) ((0 : Int), (0 : Int), (0 : Int))).2.2],
               SV.bool
                (isB (List.getD (dlist y m k) (Int.toNat i) ((0 : Int), (0 : Int), (0 : Int))).1 (List.getD (dlist y m k) (Int.toNat i) ((0 : Int), (0 : Int), (0 : Int))).2.1
                 (List.getD (dlist y m k) (Int.toNat i) ((0 : Int), (0 : Int), (0 : Int))).2.2),
               SV.bool
                !isB (List.getD (dlist y m k) (Int.toNat i) ((0 : Int), (0 : Int), (0 : Int))).1 (List.getD (dlist y m k) (Int.toNat i) ((0 : Int), (0 : Int), (0 : Int))).2.1
                 (List.getD (dlist y m k) (Int.toNat i) ((0 : Int), (0 : Int), (0 : Int))).2.2,
               SV.bool false, SV.raw (u 61), SV.raw (u 62), SV.raw (u 63), SV.raw (u 64), SV.raw (u 65), SV.raw (u 66),
               SV.raw (u 67), SV.raw (u 68), SV.raw (u 69), SV.raw (u 70), SV.raw (u 71), SV.raw (u 72), SV.raw (u 73),
               SV.raw (u 74), SV.raw (u 75), SV.raw (u 76), SV.raw (u 77), SV.raw (u 78), SV.raw (u 79), SV.raw (u 80),
               SV.raw (u 81), SV.raw (u 82), SV.raw (u 83), SV.raw (u 84), SV.raw (u 85), SV.raw (u 86), SV.raw (u 87),
               SV.raw (u 88)]
              [Ent.mk (Loc.blk b5) (SObj.cells [SV.int IntKind.i64 stop] (3 : TypeId)), Ent.mk (Loc.blk b7) (SObj.cells [SV.vec 4 ao k cap] (31 : TypeId)),
               Ent.mk (Loc.blk bY) (SObj.cells [SV.int IntKind.i64 y] (3 : TypeId)), Ent.mk (Loc.blk bm) (SObj.cells [SV.int IntKind.i64 m] (3 : TypeId)),
               Ent.mk (Loc.sl ao cap) (SObj.vecL (27 : TypeId) 3 encD (dlist y m k) ((0 : Int), (0 : Int), (0 : Int)))])
 | false =>
  b5 = b5 ∧
   match decide (stop ≥ (1 : Int)) with
   | true =>
    b5 = b5 ∧
     match decide (stop ≤ (28 : Int)) with
     | true =>
      b7 = b7 ∧
       b5 = b5 ∧
        N
         [Ent.mk (Loc.blk b5) (SObj.cells [SV.int IntKind.i64 stop] (3 : TypeId)), Ent.mk (Loc.blk b7) (SObj.cells [SV.vec 4 ao k cap] (31 : TypeId)),
          Ent.mk (Loc.blk bY) (SObj.cells [SV.int IntKind.i64 y] (3 : TypeId)), Ent.mk (Loc.blk bm) (SObj.cells [SV.int IntKind.i64 m] (3 : TypeId)),
          Ent.mk (Loc.sl ao cap) (SObj.vecL (27 : TypeId) 3 encD (dlist y m k) ((0 : Int), (0 : Int), (0 : Int)))]
         (SV.bool ((↑k : Int) == stop))
     | false =>
      b7 = b7 ∧
       match decide ((↑k : Int) ≥ (28 : Int)) with
       | true =>
        b5 = b5 ∧
         match (↑k : Int) == stop with
         | true =>
          N
           [Ent.mk (Loc.blk b5) (SObj.cells [SV.int IntKind.i64 stop] (3 : TypeId)), Ent.mk (Loc.blk b7) (SObj.cells [SV.vec 4 ao k cap] (31 : TypeId)),
            Ent.mk (Loc.blk bY) (SObj.cells [SV.int IntKind.i64 y] (3 : TypeId)), Ent.mk (Loc.blk bm) (SObj.cells [SV.int IntKind.i64 m] (3 : TypeId)),
            Ent.mk (Loc.sl ao cap) (SObj.vecL (27 : TypeId) 3 encD (dlist y m k) ((0 : Int), (0 : Int), (0 : Int)))]
           (SV.bool true)
         | false =>
          (true = true ∧ true = true) ∧
           true = true ∧
            N
             [Ent.mk (Loc.blk b5) (SObj.cells [SV.int IntKind.i64 stop] (3 : TypeId)), Ent.mk (Loc.blk b7) (SObj.cells [SV.vec 4 ao k cap] (31 : TypeId)),
              Ent.mk (Loc.blk bY) (SObj.cells [SV.int IntKind.i64 y] (3 : TypeId)), Ent.mk (Loc.blk bm) (SObj.cells [SV.int IntKind.i64 m] (3 : TypeId)),
              Ent.mk (Loc.sl ao cap) (SObj.vecL (27 : TypeId) 3 encD (dlist y m k) ((0 : Int), (0 : Int), (0 : Int)))]
             (SV.bool !isB y m (IntKind.wrap IntKind.i64 ((↑k : Int) + (1 : Int))))
       | false =>
        true = true ∧
         true = true ∧
          true = true ∧
           true = true ∧
            true = true ∧
             true = true ∧
              true = true ∧
               N
                [Ent.mk (Loc.blk b5) (SObj.cells [SV.int IntKind.i64 stop] (3 : TypeId)), Ent.mk (Loc.blk b7) (SObj.cells [SV.vec 4 ao k cap] (31 : TypeId)),
                 Ent.mk (Loc.blk bY) (SObj.cells [SV.int IntKind.i64 y] (3 : TypeId)), Ent.mk (Loc.blk bm) (SObj.cells [SV.int IntKind.i64 m] (3 : TypeId)),
                 Ent.mk (Loc.sl ao cap) (SObj.vecL (27 : TypeId) 3 encD (dlist y m k) ((0 : Int), (0 : Int), (0 : Int)))]
                (SV.bool false)
   | false =>
    b7 = b7 ∧
     match decide ((↑k : Int) ≥ (28 : Int)) with
     | true =>
      b5 = b5 ∧
       match (↑k : Int) == stop with
       | true =>
        N
         [Ent.mk (Loc.blk b5) (SObj.cells [SV.int IntKind.i64 stop] (3 : TypeId)), Ent.mk (Loc.blk b7) (SObj.cells [SV.vec 4 ao k cap] (31 : TypeId)),
          Ent.mk (Loc.blk bY) (SObj.cells [SV.int IntKind.i64 y] (3 : TypeId)), Ent.mk (Loc.blk bm) (SObj.cells [SV.int IntKind.i64 m] (3 : TypeId)),
          Ent.mk (Loc.sl ao cap) (SObj.vecL (27 : TypeId) 3 encD (dlist y m k) ((0 : Int), (0 : Int), (0 : Int)))]
         (SV.bool true)
       | false =>
        (true = true ∧ true = true) ∧
         true = true ∧
          N
           [Ent.mk (Loc.blk b5) (SObj.cells [SV.int IntKind.i64 stop] (3 : TypeId)), Ent.mk (Loc.blk b7) (SObj.cells [SV.vec 4 ao k cap] (31 : TypeId)),
            Ent.mk (Loc.blk bY) (SObj.cells [SV.int IntKind.i64 y] (3 : TypeId)), Ent.mk (Loc.blk bm) (SObj.cells [SV.int IntKind.i64 m] (3 : TypeId)),
            Ent.mk (Loc.sl ao cap) (SObj.vecL (27 : TypeId) 3 encD (dlist y m k) ((0 : Int), (0 : Int), (0 : Int)))]
           (SV.bool !isB y m (IntKind.wrap IntKind.i64 ((↑k : Int) + (1 : Int))))
     | false =>
      true = true ∧
       true = true ∧
        true = true ∧
         true = true ∧
          true = true ∧
           true = true ∧
            true = true ∧
             N
              [Ent.mk (Loc.blk b5) (SObj.cells [SV.int IntKind.i64 stop] (3 : TypeId)), Ent.mk (Loc.blk b7) (SObj.cells [SV.vec 4 ao k cap] (31 : TypeId)),
               Ent.mk (Loc.blk bY) (SObj.cells [SV.int IntKind.i64 y] (3 : TypeId)), Ent.mk (Loc.blk bm) (SObj.cells [SV.int IntKind.i64 m] (3 : TypeId)),
               Ent.mk (Loc.sl ao cap) (SObj.vecL (27 : TypeId) 3 encD (dlist y m k) ((0 : Int), (0 : Int), (0 : Int)))]
              (SV.bool false)) := by kernel_rfl
end Go.Proofs.Ytjnkfgigpapeaaa
