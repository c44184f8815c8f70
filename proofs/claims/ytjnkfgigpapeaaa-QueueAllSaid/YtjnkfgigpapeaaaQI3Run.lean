import Derived.Test.YtjnkfgigpapeaaaQI3C
import Derived.Test.YtjnkfgigpapeaaaTab
namespace Go.Proofs.Ytjnkfgigpapeaaa
set_option linter.unusedVariables false
open Go Go.RowKit
set_option maxHeartbeats 0
set_option maxRecDepth 100000
set_option linter.unusedVariables false
set_option maxRecDepth 100000

theorem kn13_a (K : List Frm → Sy → Prop) (N : List Ent → SV → Prop) : (run Try.prog qTI4 false [4] K (retP Try.prog Try.f34.results.toList N) 900 [.code (bodyOf Try.f34)] ⟨padTo 56 [], []⟩) = (
true = true ∧
 (true = true ∧ true = true) ∧
  (true = true ∧ true = true) ∧
   true = true ∧
    ∀ (b : Nat),
     K (frmR [] (bodyOf Try.f34) 4)
      (Sy.mk
       [SV.bool false, SV.ptr 0 b 0, SV.raw (Value.tuple #[]), SV.raw (Value.tuple #[]), SV.raw (Value.tuple #[]), SV.raw (Value.tuple #[]), SV.raw (Value.tuple #[]),
        SV.raw (Value.tuple #[]), SV.raw (Value.tuple #[]), SV.ptr 0 b 0, SV.ptr 0 b 0, SV.bool false, SV.raw (Value.tuple #[]), SV.raw (Value.tuple #[]),
        SV.raw (Value.tuple #[]), SV.raw (Value.tuple #[]), SV.raw (Value.tuple #[]), SV.raw (Value.tuple #[]), SV.raw (Value.tuple #[]), SV.raw (Value.tuple #[]), SV.raw (Value.tuple #[]),
        SV.raw (Value.tuple #[]), SV.raw (Value.tuple #[]), SV.raw (Value.tuple #[]), SV.raw (Value.tuple #[]), SV.raw (Value.tuple #[]), SV.raw (Value.tuple #[]), SV.raw (Value.tuple #[]),
        SV.raw (Value.tuple #[]), SV.raw (Value.tuple #[]), SV.raw (Value.tuple #[]), SV.raw (Value.tuple #[]), SV.raw (Value.tuple #[]), SV.raw (Value.tuple #[]), SV.raw (Value.tuple #[]),
        SV.raw (Value.tuple #[]), SV.raw (Value.tuple #[]), SV.raw (Value.tuple #[]), SV.raw (Value.tuple #[]), SV.raw (Value.tuple #[]), SV.raw (Value.tuple #[]), SV.raw (Value.tuple #[]),
        SV.raw (Value.tuple #[]), SV.raw (Value.tuple #[]), SV.raw (Value.tuple #[]), SV.raw (Value.tuple #[]), SV.raw (Value.tuple #[]), SV.raw (Value.tuple #[]), SV.raw (Value.tuple #[]),
        SV.raw (Value.tuple #[]), SV.raw (Value.tuple #[]), SV.raw (Value.tuple #[]), SV.raw (Value.tuple #[]), SV.raw (Value.tuple #[]), SV.raw (Value.tuple #[]), SV.raw (Value.tuple #[])]
       [Ent.mk (Loc.blk b) (SObj.cells [SV.raw (Value.slice (@none Addr) 0 0), SV.func (Fn.func 77) [] [], SV.int IntKind.i64 (0 : Int)] 146)])) := by kernel_rfl


theorem kn13_b (K : List Frm → Sy → Prop) (N : List Ent → SV → Prop) (u : Nat → Value) (q : Nat) : (run Try.prog qTI4 false [] K (retP Try.prog Try.f34.results.toList N) 2500 (frmR [] (bodyOf Try.f34) 4) ⟨mkT u 56 0 [(0, .bool false), (1, .ptr 0 q 0)], [⟨.blk q, .cells [.vec 1 none 0 0, .func (.func 77) [] [], .int .i64 0] 146⟩, ⟨.sl none 0, .vecL 149 2 encItI [] ((0 : Int), (0 : Int))⟩]⟩) = (
true = true ∧
 q = q ∧
  (true = true ∧ true = true) ∧
   true = true ∧
    ∃ (xs : List (Int × Int)),
     (Ent.mk (Loc.sl (@none Addr) 0) (SObj.vecL 149 2 (fun (x : Int × Int) ↦ [SV.int IntKind.i64 x.fst, SV.int IntKind.i64 x.snd]) [] ((0 : Int), (0 : Int))) =
      Ent.mk (Loc.sl (@none Addr) 0) (SObj.vecL (149 : TypeId) 2 encItI xs ((0 : Int), (0 : Int))) ∧
      q = q ∧ 0 = List.length xs ∧ false = false) ∧
      ∃ (x : Int × Int),
       (147 = (147 : TypeId) ∧
        149 = (149 : TypeId) ∧
         [SV.int IntKind.i64 x.1, SV.int IntKind.i64 x.2] = [SV.int IntKind.i64 (3 : Int), SV.int IntKind.i64 (0 : Int)] ∧
          (List.length xs + 1) * 16 ≤ 140737488355328 ∧ List.length xs < 2305843009213693952) ∧
        ∃ (bef : Int → Int → Bool),
         RI (77 : FuncId) bef ∧
          ∀ (ao2 : Option Addr) (cap2 : Nat),
           q = q ∧
            (q = q ∧ true = true ∧ 1 = 1 ∧ 3 ≤ 3) ∧
             true = true ∧
              q = q ∧
               (true = true ∧ true = true) ∧
                true = true ∧
                 ∃ (xs_1 : List (Int × Int)),
                  (Ent.mk (Loc.sl ao2 cap2) (SObj.vecL (149 : TypeId) 2 encItI (pushL (lessI bef) ((0 : Int), (0 : Int)) xs x) ((0 : Int), (0 : Int))) =
                   Ent.mk (Loc.sl ao2 cap2) (SObj.vecL (149 : TypeId) 2 encItI xs_1 ((0 : Int), (0 : Int))) ∧
                   q = q ∧ List.length (pushL (lessI bef) ((0 : Int), (0 : Int)) xs x) = List.length xs_1 ∧ false = false) ∧
                   ∃ (x : Int × Int),
                    (147 = (147 : TypeId) ∧
                     149 = (149 : TypeId) ∧
                      [SV.int IntKind.i64 x.1, SV.int IntKind.i64 x.2] = [SV.int IntKind.i64 (1 : Int), SV.int IntKind.i64 (1 : Int)] ∧
                       (List.length xs_1 + 1) * 16 ≤ 140737488355328 ∧ List.length xs_1 < 2305843009213693952) ∧
                     ∃ (bef : Int → Int → Bool),
                      RI 77 bef ∧
                       ∀ (ao2 : Option Addr) (cap2 : Nat),
                        q = q ∧
                         (q = q ∧ true = true ∧ 1 = 1 ∧ 3 ≤ 3) ∧
                          true = true ∧
                           q = q ∧
                            (true = true ∧ true = true) ∧
                             true = true ∧
                              ∃ (xs : List (Int × Int)),
                               (Ent.mk (Loc.sl ao2 cap2)
                                (SObj.vecL (149 : TypeId) 2 encItI (pushL (lessI bef) ((0 : Int), (0 : Int)) xs_1 x) ((0 : Int), (0 : Int))) =
                                Ent.mk (Loc.sl ao2 cap2) (SObj.vecL (149 : TypeId) 2 encItI xs ((0 : Int), (0 : Int))) ∧
                                q = q ∧ List.length (pushL (lessI bef) ((0 : Int), (0 : Int)) xs_1 x) = List.length xs ∧ false = false) ∧
                                ∃ (x : Int × Int),
                                 (147 = (147 : TypeId) ∧
                                  149 = (149 : TypeId) ∧
                                   [SV.int IntKind.i64 x.1, SV.int IntKind.i64 x.2] = [SV.int IntKind.i64 (2 : Int), SV.int IntKind.i64 (2 : Int)] ∧
                                    (List.length xs + 1) * 16 ≤ 140737488355328 ∧ List.length xs < 2305843009213693952) ∧
                                  ∃ (bef : Int → Int → Bool),
                                   RI 77 bef ∧
                                    ∀ (ao2 : Option Addr) (cap2 : Nat),
                                     q = q ∧
                                      (q = q ∧ true = true ∧ 1 = 1 ∧ 3 ≤ 3) ∧
                                       true = true ∧
                                        true = true ∧
                                         q = q ∧
                                          match (↑(List.length (pushL (lessI bef) ((0 : Int), (0 : Int)) xs x)) : Int) == (0 : Int) with
                                          | true =>
                                           true = true ∧
                                            true = true ∧
                                             q = q ∧
                                              match (↑(List.length (pushL (lessI bef) ((0 : Int), (0 : Int)) xs x)) : Int) == (0 : Int) with
                                              | true =>
                                               true = true ∧
                                                (true = true ∧ true = true) ∧
                                                 (true = true ∧ true = true) ∧
                                                  true = true ∧
                                                   ∀ (b : Nat),
                                                    true = true ∧
                                                     true = true ∧
                                                      b = b ∧
                                                       N
                                                        [Ent.mk (Loc.blk q)
                                                         (SObj.cells
                                                          [SV.vec 1 ao2
                                                           (List.length (pushL (lessI bef) ((0 : Int), (0 : Int)) xs x)) cap2,
                                                           SV.func (Fn.func 77) [] [], SV.int IntKind.i64 (3 : Int)]
                                                          (146 : TypeId)),
                                                         Ent.mk (Loc.sl ao2 cap2)
                                                          (SObj.vecL (149 : TypeId) 2 encItI
                                                           (pushL (lessI bef) ((0 : Int), (0 : Int)) xs x) ((0 : Int), (0 : Int))),
                                                         Ent.mk (Loc.blk b)
                                                          (SObj.cells
                                                           [SV.raw (Value.slice (@none Addr) 0 0),
                                                            SV.func (Fn.func 79) [] [], SV.int IntKind.i64 (0 : Int)]
                                                           136)]
                                                        (SV.bool false)
                                              | false =>
                                               q = q ∧
                                                (ao2 = ao2 ∧
                                                 cap2 = cap2 ∧
                                                  List.length (pushL (lessI bef) ((0 : Int), (0 : Int)) xs x) =
                                                   List.length (pushL (lessI bef) ((0 : Int), (0 : Int)) xs x) ∧
                                                   (0 : Int) ≤ (0 : Int) ∧
                                                    (0 : Int) < (↑(List.length (pushL (lessI bef) ((0 : Int), (0 : Int)) xs x)) : Int)) ∧
                                                 (Addr.blkD ao2 = Addr.blkD ao2 ∧
                                                  Addr.offD ao2 = Addr.offD ao2 ∧
                                                   2 = 2 ∧
                                                    0 < List.length (pushL (lessI bef) ((0 : Int), (0 : Int)) xs x)) ∧
                                                  true = true ∧
                                                   (true = true ∧ true = true) ∧
                                                    (true = true ∧ true = true) ∧
                                                     true = true ∧
                                                      ∀ (b : Nat),
                                                       true = true ∧
                                                        true = true ∧
                                                         b = b ∧
                                                          N
                                                           [Ent.mk (Loc.blk q)
                                                            (SObj.cells
                                                             [SV.vec 1 ao2
                                                              (List.length (pushL (lessI bef) ((0 : Int), (0 : Int)) xs x)) cap2,
                                                              SV.func (Fn.func 77) [] [], SV.int IntKind.i64 (3 : Int)]
                                                             (146 : TypeId)),
                                                            Ent.mk (Loc.sl ao2 cap2)
                                                             (SObj.vecL (149 : TypeId) 2 encItI
                                                              (pushL (lessI bef) ((0 : Int), (0 : Int)) xs x) ((0 : Int), (0 : Int))),
                                                            Ent.mk (Loc.blk b)
                                                             (SObj.cells
                                                              [SV.raw (Value.slice (@none Addr) 0 0),
                                                               SV.func (Fn.func 79) [] [], SV.int IntKind.i64 (0 : Int)]
                                                              136)]
                                                           (SV.bool false)
                                          | false =>
                                           true = true ∧
                                            ∃ (xs_2 : List (Int × Int)),
                                             (Ent.mk (Loc.sl ao2 cap2)
                                              (SObj.vecL (149 : TypeId) 2 encItI (pushL (lessI bef) ((0 : Int), (0 : Int)) xs x)
                                               ((0 : Int), (0 : Int))) =
                                              Ent.mk (Loc.sl ao2 cap2) (SObj.vecL (149 : TypeId) 2 encItI xs_2 ((0 : Int), (0 : Int))) ∧
                                              q = q ∧ List.length (pushL (lessI bef) ((0 : Int), (0 : Int)) xs x) = List.length xs_2 ∧ false = false) ∧
                                              (147 = (147 : TypeId) ∧
                                               0 < List.length xs_2 ∧ List.length xs_2 ≤ 2305843009213693952) ∧
                                               ∃ (bef : Int → Int → Bool),
                                                RI 77 bef ∧
                                                 true = true ∧
                                                  true = true ∧
                                                   q = q ∧
                                                    match (↑(List.length (popL (lessI bef) ((0 : Int), (0 : Int)) xs_2)) : Int) == (0 : Int) with
                                                    | true =>
                                                     true = true ∧
                                                      (true = true ∧ true = true) ∧
                                                       (true = true ∧ true = true) ∧
                                                        true = true ∧
                                                         ∀ (b : Nat),
                                                          true = true ∧
                                                           true = true ∧
                                                            b = b ∧
                                                             match (List.getD xs_2 0 ((0 : Int), (0 : Int))).1 == (1 : Int) with
                                                             | true =>
                                                              N
                                                               [Ent.mk (Loc.blk q)
                                                                (SObj.cells
                                                                 [SV.vec 1 ao2
                                                                  (List.length (popL (lessI bef) ((0 : Int), (0 : Int)) xs_2))
                                                                  cap2,
                                                                  SV.func (Fn.func 77) [] [], SV.int IntKind.i64 (3 : Int)]
                                                                 (146 : TypeId)),
                                                                Ent.mk (Loc.sl ao2 cap2)
                                                                 (SObj.vecL (149 : TypeId) 2 encItI
                                                                  (popL (lessI bef) ((0 : Int), (0 : Int)) xs_2)
                                                                  ((0 : Int), (0 : Int))),
                                                                Ent.mk (Loc.blk b)
                                                                 (SObj.cells
                                                                  [SV.raw (Value.slice (@none Addr) 0 0),
                                                                   SV.func (Fn.func 79) [] [], SV.int IntKind.i64 (0 : Int)]
                                                                  136)]
                                                               (SV.bool false)
                                                             | false =>
                                                              N
                                                               [Ent.mk (Loc.blk q)
                                                                (SObj.cells
                                                                 [SV.vec 1 ao2
                                                                  (List.length (popL (lessI bef) ((0 : Int), (0 : Int)) xs_2))
                                                                  cap2,
                                                                  SV.func (Fn.func 77) [] [], SV.int IntKind.i64 (3 : Int)]
                                                                 (146 : TypeId)),
                                                                Ent.mk (Loc.sl ao2 cap2)
                                                                 (SObj.vecL (149 : TypeId) 2 encItI
                                                                  (popL (lessI bef) ((0 : Int), (0 : Int)) xs_2)
                                                                  ((0 : Int), (0 : Int))),
                                                                Ent.mk (Loc.blk b)
                                                                 (SObj.cells
                                                                  [SV.raw (Value.slice (@none Addr) 0 0),
                                                                   SV.func (Fn.func 79) [] [], SV.int IntKind.i64 (0 : Int)]
                                                                  136)]
                                                               (SV.bool false)
                                                    | false =>
                                                     q = q ∧
                                                      (ao2 = ao2 ∧
                                                       cap2 = cap2 ∧
                                                        List.length (popL (lessI bef) ((0 : Int), (0 : Int)) xs_2) =
                                                         List.length (popL (lessI bef) ((0 : Int), (0 : Int)) xs_2) ∧
                                                         (0 : Int) ≤ (0 : Int) ∧
                                                          (0 : Int) <
                                                           (↑(List.length (popL (lessI bef) ((0 : Int), (0 : Int)) xs_2)) : Int)) ∧
                                                       (Addr.blkD ao2 = Addr.blkD ao2 ∧
                                                        Addr.offD ao2 = Addr.offD ao2 ∧
                                                         2 = 2 ∧
                                                          0 < List.length (popL (lessI bef) ((0 : Int), (0 : Int)) xs_2)) ∧
                                                        true = true ∧
                                                         (true = true ∧ true = true) ∧
                                                          (true = true ∧ true = true) ∧
                                                           true = true ∧
                                                            ∀ (b : Nat),
                                                             true = true ∧
                                                              true = true ∧
                                                               b = b ∧
                                                                match
                                                                 (List.getD xs_2 0 ((0 : Int), (0 : Int))).1 == (1 : Int) with
                                                                | true =>
                                                                 match
                                                                  (List.getD (popL (lessI bef) ((0 : Int), (0 : Int)) xs_2) 0
                                                                   ((0 : Int), (0 : Int))).1 ==
                                                                   (2 : Int) with
                                                                 | true =>
                                                                  true = true ∧
                                                                   q = q ∧
                                                                    match
                                                                     (↑(List.length
                                                                      (popL (lessI bef) ((0 : Int), (0 : Int)) xs_2)) :
                                                                      Int) ==
                                                                      (2 : Int) with
                                                                    | true =>
                                                                     N
                                                                      [Ent.mk (Loc.blk q)
                                                                       (SObj.cells
                                                                        [SV.vec 1 ao2
                                                                         (List.length
                                                                          (popL (lessI bef) ((0 : Int), (0 : Int)) xs_2))
                                                                         cap2,
                                                                         SV.func (Fn.func 77) [] [],
                                                                         SV.int IntKind.i64 (3 : Int)]
                                                                        (146 : TypeId)),
                                                                       Ent.mk (Loc.sl ao2 cap2)
                                                                        (SObj.vecL (149 : TypeId) 2 encItI
                                                                         (popL (lessI bef) ((0 : Int), (0 : Int)) xs_2)
                                                                         ((0 : Int), (0 : Int))),
                                                                       Ent.mk (Loc.blk b)
                                                                        (SObj.cells
                                                                         [SV.raw
                                                                          (Value.slice (@none Addr) 0 0),
                                                                          SV.func (Fn.func 79) [] [],
                                                                          SV.int IntKind.i64 (0 : Int)]
                                                                         136)]
                                                                      (SV.bool true)
                                                                    | false =>
                                                                     N
                                                                      [Ent.mk (Loc.blk q)
                                                                       (SObj.cells
                                                                        [SV.vec 1 ao2
                                                                         (List.length
                                                                          (popL (lessI bef) ((0 : Int), (0 : Int)) xs_2))
                                                                         cap2,
                                                                         SV.func (Fn.func 77) [] [],
                                                                         SV.int IntKind.i64 (3 : Int)]
                                                                        (146 : TypeId)),
                                                                       Ent.mk (Loc.sl ao2 cap2)
                                                                        (SObj.vecL (149 : TypeId) 2 encItI
                                                                         (popL (lessI bef) ((0 : Int), (0 : Int)) xs_2)
                                                                         ((0 : Int), (0 : Int))),
                                                                       Ent.mk (Loc.blk b)
                                                                        (SObj.cells
                                                                         [SV.raw
                                                                          (Value.slice (@none Addr) 0 0),
                                                                          SV.func (Fn.func 79) [] [],
                                                                          SV.int IntKind.i64 (0 : Int)]
                                                                         136)]
                                                                      (SV.bool false)
                                                                 | false =>
                                                                  N
                                                                   [Ent.mk (Loc.blk q)
                                                                    (SObj.cells
                                                                     [SV.vec 1 ao2
                                                                      (List.length
                                                                       (popL (lessI bef) ((0 : Int), (0 : Int)) xs_2))
                                                                      cap2,
                                                                      SV.func (Fn.func 77) [] [],
                                                                      SV.int IntKind.i64 (3 : Int)]
                                                                     (146 : TypeId)),
                                                                    Ent.mk (Loc.sl ao2 cap2)
                                                                     (SObj.vecL (149 : TypeId) 2 encItI
                                                                      (popL (lessI bef) ((0 : Int), (0 : Int)) xs_2)
                                                                      ((0 : Int), (0 : Int))),
                                                                    Ent.mk (Loc.blk b)
                                                                     (SObj.cells
                                                                      [SV.raw (Value.slice (@none Addr) 0 0),
                                                                       SV.func (Fn.func 79) [] [],
                                                                       SV.int IntKind.i64 (0 : Int)]
                                                                      136)]
                                                                   (SV.bool false)
                                                                | false =>
                                                                 N
                                                                  [Ent.mk (Loc.blk q)
                                                                   (SObj.cells
                                                                    [SV.vec 1 ao2
                                                                     (List.length
                                                                      (popL (lessI bef) ((0 : Int), (0 : Int)) xs_2))
                                                                     cap2,
                                                                     SV.func (Fn.func 77) [] [],
                                                                     SV.int IntKind.i64 (3 : Int)]
                                                                    (146 : TypeId)),
                                                                   Ent.mk (Loc.sl ao2 cap2)
                                                                    (SObj.vecL (149 : TypeId) 2 encItI
                                                                     (popL (lessI bef) ((0 : Int), (0 : Int)) xs_2)
                                                                     ((0 : Int), (0 : Int))),
                                                                   Ent.mk (Loc.blk b)
                                                                    (SObj.cells
                                                                     [SV.raw (Value.slice (@none Addr) 0 0),
                                                                      SV.func (Fn.func 79) [] [],
                                                                      SV.int IntKind.i64 (0 : Int)]
                                                                     136)]
                                                                  (SV.bool false)) := by kernel_rfl
end Go.Proofs.Ytjnkfgigpapeaaa
