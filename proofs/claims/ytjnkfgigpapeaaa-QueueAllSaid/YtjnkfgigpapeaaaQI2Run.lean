import Derived.Test.YtjnkfgigpapeaaaQI2C
import Derived.Test.YtjnkfgigpapeaaaTab
namespace Go.Proofs.Ytjnkfgigpapeaaa
set_option linter.unusedVariables false
open Go Go.RowKit
set_option maxHeartbeats 0
set_option maxRecDepth 100000
set_option linter.unusedVariables false
set_option maxRecDepth 100000

theorem qIup_start (K : List Frm → Sy → Prop) (N : List Ent → SV → Prop) (J : Act → World → Prop) (u : Nat → Value) (b cap : Nat) (ao : Option Addr) (rest : List SV) (T : TypeId) (xs : List (Int × Int)) (f : FuncId) (j : Int) : (run Try.prog qTI1 false [] K (retP Try.prog Try.f99.results.toList N) 900 [.code (bodyOf Try.f99)] ⟨padTo 23 [(.iface 147 (.ptr 0 b 0)), .int .i64 j], qhG 149 2 encItI ((0 : Int), (0 : Int)) b ao cap f rest T xs⟩) = (
K (frm [] (bodyOf Try.f99) [0] [])
 (Sy.mk
  [SV.iface (147 : TypeId) (SV.ptr 0 b 0), SV.int IntKind.i64 j, SV.raw (Value.tuple #[]), SV.raw (Value.tuple #[]), SV.raw (Value.tuple #[]), SV.raw (Value.tuple #[]),
   SV.raw (Value.tuple #[]), SV.raw (Value.tuple #[]), SV.raw (Value.tuple #[]), SV.raw (Value.tuple #[]), SV.raw (Value.tuple #[]), SV.raw (Value.tuple #[]), SV.raw (Value.tuple #[]),
   SV.raw (Value.tuple #[]), SV.raw (Value.tuple #[]), SV.raw (Value.tuple #[]), SV.raw (Value.tuple #[]), SV.raw (Value.tuple #[]), SV.raw (Value.tuple #[]), SV.raw (Value.tuple #[]),
   SV.raw (Value.tuple #[]), SV.raw (Value.tuple #[]), SV.raw (Value.tuple #[])]
  [Ent.mk (Loc.blk b) (SObj.cells (SV.vec 1 ao (List.length xs) cap :: SV.func (Fn.func f) [] [] :: rest) T),
   Ent.mk (Loc.sl ao cap) (SObj.vecL (149 : TypeId) 2 encItI xs ((0 : Int), (0 : Int)))])) := by kernel_rfl


theorem qIup_body (K : List Frm → Sy → Prop) (N : List Ent → SV → Prop) (J : Act → World → Prop) (u : Nat → Value) (b cap : Nat) (ao : Option Addr) (rest : List SV) (T : TypeId) (xs : List (Int × Int)) (f : FuncId) (j : Int) : (run Try.prog qTI1 false [] K (retP Try.prog Try.f99.results.toList N) 900 (frm [J] (bodyOf Try.f99) [0, 0] []) ⟨mkT u 23 0 [(0, (.iface 147 (.ptr 0 b 0))), (1, .int .i64 j)], qhG 149 2 encItI ((0 : Int), (0 : Int)) b ao cap f rest T xs⟩) = (
(2 : Int) ≠ (0 : Int) ∧
 match IntKind.wrap IntKind.i64 (Int.tdiv (IntKind.wrap IntKind.i64 (j - (1 : Int))) (2 : Int)) == j with
 | true =>
  N
   [Ent.mk (Loc.blk b) (SObj.cells (SV.vec 1 ao (List.length xs) cap :: SV.func (Fn.func f) [] [] :: rest) T),
    Ent.mk (Loc.sl ao cap) (SObj.vecL (149 : TypeId) 2 encItI xs ((0 : Int), (0 : Int)))]
   (SV.tuple [])
 | false =>
  true = true ∧
   ∃ (xs_1 : List (Int × Int)),
    (Ent.mk (Loc.sl ao cap) (SObj.vecL (149 : TypeId) 2 encItI xs ((0 : Int), (0 : Int))) = Ent.mk (Loc.sl ao cap) (SObj.vecL (149 : TypeId) 2 encItI xs_1 ((0 : Int), (0 : Int))) ∧
     b = b ∧ List.length xs = List.length xs_1 ∧ false = false) ∧
     (IntKind.i64 = IntKind.i64 ∧
      IntKind.i64 = IntKind.i64 ∧
       (0 : Int) ≤ j ∧
        j < (↑(List.length xs_1) : Int) ∧
         (0 : Int) ≤ IntKind.wrap IntKind.i64 (Int.tdiv (IntKind.wrap IntKind.i64 (j - (1 : Int))) (2 : Int)) ∧
          IntKind.wrap IntKind.i64 (Int.tdiv (IntKind.wrap IntKind.i64 (j - (1 : Int))) (2 : Int)) < (↑(List.length xs_1) : Int)) ∧
      ∃ (bef : Int → Int → Bool),
       RI f bef ∧
        match
         !lessI bef (List.getD xs_1 (Int.toNat j) ((0 : Int), (0 : Int)))
          (List.getD xs_1 (Int.toNat (IntKind.wrap IntKind.i64 (Int.tdiv (IntKind.wrap IntKind.i64 (j - (1 : Int))) (2 : Int)))) ((0 : Int), (0 : Int))) with
        | true =>
         N
          [Ent.mk (Loc.blk b) (SObj.cells (SV.vec 1 ao (List.length xs) cap :: SV.func (Fn.func f) [] [] :: rest) T),
           Ent.mk (Loc.sl ao cap) (SObj.vecL (149 : TypeId) 2 encItI xs ((0 : Int), (0 : Int)))]
          (SV.tuple [])
        | false =>
         true = true ∧
          ∃ (xs_2 : List (Int × Int)),
           (Ent.mk (Loc.sl ao cap) (SObj.vecL (149 : TypeId) 2 encItI xs ((0 : Int), (0 : Int))) =
            Ent.mk (Loc.sl ao cap) (SObj.vecL (149 : TypeId) 2 encItI xs_2 ((0 : Int), (0 : Int))) ∧
            b = b ∧ List.length xs = List.length xs_2 ∧ false = false) ∧
            (IntKind.i64 = IntKind.i64 ∧
             IntKind.i64 = IntKind.i64 ∧
              (0 : Int) ≤ IntKind.wrap IntKind.i64 (Int.tdiv (IntKind.wrap IntKind.i64 (j - (1 : Int))) (2 : Int)) ∧
               IntKind.wrap IntKind.i64 (Int.tdiv (IntKind.wrap IntKind.i64 (j - (1 : Int))) (2 : Int)) < (↑(List.length xs_2) : Int) ∧
                (0 : Int) ≤ j ∧ j < (↑(List.length xs_2) : Int)) ∧
             K [Frm.loop J, Frm.blk 0]
              (Sy.mk
               [SV.iface (147 : TypeId) (SV.ptr 0 b 0), SV.int IntKind.i64 (IntKind.wrap IntKind.i64 (Int.tdiv (IntKind.wrap IntKind.i64 (j - (1 : Int))) (2 : Int))),
                SV.raw (u 2), SV.raw (u 3), SV.int IntKind.i64 (IntKind.wrap IntKind.i64 (Int.tdiv (IntKind.wrap IntKind.i64 (j - (1 : Int))) (2 : Int))),
                SV.int IntKind.i64 j, SV.int IntKind.i64 (IntKind.wrap IntKind.i64 (j - (1 : Int))),
                SV.int IntKind.i64 (IntKind.wrap IntKind.i64 (Int.tdiv (IntKind.wrap IntKind.i64 (j - (1 : Int))) (2 : Int))),
                SV.int IntKind.i64 (IntKind.wrap IntKind.i64 (Int.tdiv (IntKind.wrap IntKind.i64 (j - (1 : Int))) (2 : Int))), SV.int IntKind.i64 j,
                SV.bool (IntKind.wrap IntKind.i64 (Int.tdiv (IntKind.wrap IntKind.i64 (j - (1 : Int))) (2 : Int)) == j), SV.bool false,
                SV.iface (147 : TypeId) (SV.ptr 0 b 0), SV.int IntKind.i64 j,
                SV.int IntKind.i64 (IntKind.wrap IntKind.i64 (Int.tdiv (IntKind.wrap IntKind.i64 (j - (1 : Int))) (2 : Int))),
                SV.bool
                 (lessI bef (List.getD xs_1 (Int.toNat j) ((0 : Int), (0 : Int)))
                  (List.getD xs_1 (Int.toNat (IntKind.wrap IntKind.i64 (Int.tdiv (IntKind.wrap IntKind.i64 (j - (1 : Int))) (2 : Int)))) ((0 : Int), (0 : Int)))),
                SV.bool
                 !lessI bef (List.getD xs_1 (Int.toNat j) ((0 : Int), (0 : Int)))
                  (List.getD xs_1 (Int.toNat (IntKind.wrap IntKind.i64 (Int.tdiv (IntKind.wrap IntKind.i64 (j - (1 : Int))) (2 : Int)))) ((0 : Int), (0 : Int))),
                SV.bool false, SV.iface (147 : TypeId) (SV.ptr 0 b 0),
                SV.int IntKind.i64 (IntKind.wrap IntKind.i64 (Int.tdiv (IntKind.wrap IntKind.i64 (j - (1 : Int))) (2 : Int))), SV.int IntKind.i64 j, SV.tuple [],
                SV.int IntKind.i64 (IntKind.wrap IntKind.i64 (Int.tdiv (IntKind.wrap IntKind.i64 (j - (1 : Int))) (2 : Int)))]
               [Ent.mk (Loc.blk b)
                (SObj.cells
                 (SV.vec 1 ao
                  (List.length
                   (swapL ((0 : Int), (0 : Int)) xs_2 (Int.toNat (IntKind.wrap IntKind.i64 (Int.tdiv (IntKind.wrap IntKind.i64 (j - (1 : Int))) (2 : Int)))) (Int.toNat j)))
                  cap ::
                  SV.func (Fn.func f) [] [] :: rest)
                 T),
                Ent.mk (Loc.sl ao cap)
                 (SObj.vecL (149 : TypeId) 2 encItI
                  (swapL ((0 : Int), (0 : Int)) xs_2 (Int.toNat (IntKind.wrap IntKind.i64 (Int.tdiv (IntKind.wrap IntKind.i64 (j - (1 : Int))) (2 : Int)))) (Int.toNat j))
                  ((0 : Int), (0 : Int)))])) := by kernel_rfl


theorem qIdn_start (K : List Frm → Sy → Prop) (N : List Ent → SV → Prop) (J : Act → World → Prop) (u : Nat → Value) (b cap : Nat) (ao : Option Addr) (rest : List SV) (T : TypeId) (xs : List (Int × Int)) (f : FuncId) (i0 n : Int) : (run Try.prog qTI1 false [] K (retP Try.prog Try.f100.results.toList N) 900 [.code (bodyOf Try.f100)] ⟨padTo 48 [(.iface 147 (.ptr 0 b 0)), .int .i64 i0, .int .i64 n], qhG 149 2 encItI ((0 : Int), (0 : Int)) b ao cap f rest T xs⟩) = (
K (frm [] (bodyOf Try.f100) [1, 1, 0, 0] [])
 (Sy.mk
  [SV.iface (147 : TypeId) (SV.ptr 0 b 0), SV.int IntKind.i64 i0, SV.int IntKind.i64 n, SV.raw (Value.tuple #[]), SV.raw (Value.tuple #[]), SV.raw (Value.tuple #[]), SV.bool false,
   SV.int IntKind.i64 i0, SV.raw (Value.tuple #[]), SV.raw (Value.tuple #[]), SV.raw (Value.tuple #[]), SV.int IntKind.i64 i0, SV.raw (Value.tuple #[]), SV.raw (Value.tuple #[]),
   SV.raw (Value.tuple #[]), SV.raw (Value.tuple #[]), SV.raw (Value.tuple #[]), SV.raw (Value.tuple #[]), SV.raw (Value.tuple #[]), SV.raw (Value.tuple #[]), SV.raw (Value.tuple #[]),
   SV.raw (Value.tuple #[]), SV.raw (Value.tuple #[]), SV.raw (Value.tuple #[]), SV.raw (Value.tuple #[]), SV.raw (Value.tuple #[]), SV.raw (Value.tuple #[]), SV.raw (Value.tuple #[]),
   SV.raw (Value.tuple #[]), SV.raw (Value.tuple #[]), SV.raw (Value.tuple #[]), SV.raw (Value.tuple #[]), SV.raw (Value.tuple #[]), SV.raw (Value.tuple #[]), SV.raw (Value.tuple #[]),
   SV.raw (Value.tuple #[]), SV.raw (Value.tuple #[]), SV.raw (Value.tuple #[]), SV.raw (Value.tuple #[]), SV.raw (Value.tuple #[]), SV.raw (Value.tuple #[]), SV.raw (Value.tuple #[]),
   SV.raw (Value.tuple #[]), SV.raw (Value.tuple #[]), SV.raw (Value.tuple #[]), SV.raw (Value.tuple #[]), SV.raw (Value.tuple #[]), SV.raw (Value.tuple #[])]
  [Ent.mk (Loc.blk b) (SObj.cells (SV.vec 1 ao (List.length xs) cap :: SV.func (Fn.func f) [] [] :: rest) T),
   Ent.mk (Loc.sl ao cap) (SObj.vecL (149 : TypeId) 2 encItI xs ((0 : Int), (0 : Int)))])) := by kernel_rfl


theorem qIdn_body (K : List Frm → Sy → Prop) (N : List Ent → SV → Prop) (J : Act → World → Prop) (u : Nat → Value) (b cap : Nat) (ao : Option Addr) (rest : List SV) (T : TypeId) (xs : List (Int × Int)) (f : FuncId) (i0 n i : Int) : (run Try.prog qTI1 false [] K (retP Try.prog Try.f100.results.toList N) 900 (frm [J] (bodyOf Try.f100) [1, 1, 0, 0, 0] []) ⟨mkT u 48 0 [(0, (.iface 147 (.ptr 0 b 0))), (1, .int .i64 i0), (2, .int .i64 n), (7, .int .i64 i)], qhG 149 2 encItI ((0 : Int), (0 : Int)) b ao cap f rest T xs⟩) = (
match decide (IntKind.wrap IntKind.i64 (IntKind.wrap IntKind.i64 ((2 : Int) * i) + (1 : Int)) ≥ n) with
| true =>
 N
  [Ent.mk (Loc.blk b) (SObj.cells (SV.vec 1 ao (List.length xs) cap :: SV.func (Fn.func f) [] [] :: rest) T),
   Ent.mk (Loc.sl ao cap) (SObj.vecL (149 : TypeId) 2 encItI xs ((0 : Int), (0 : Int)))]
  (SV.bool (decide (i > i0)))
| false =>
 match decide (IntKind.wrap IntKind.i64 (IntKind.wrap IntKind.i64 ((2 : Int) * i) + (1 : Int)) < (0 : Int)) with
 | true =>
  N
   [Ent.mk (Loc.blk b) (SObj.cells (SV.vec 1 ao (List.length xs) cap :: SV.func (Fn.func f) [] [] :: rest) T),
    Ent.mk (Loc.sl ao cap) (SObj.vecL (149 : TypeId) 2 encItI xs ((0 : Int), (0 : Int)))]
   (SV.bool (decide (i > i0)))
 | false =>
  match decide (IntKind.wrap IntKind.i64 (IntKind.wrap IntKind.i64 (IntKind.wrap IntKind.i64 ((2 : Int) * i) + (1 : Int)) + (1 : Int)) < n) with
  | true =>
   true = true ∧
    ∃ (xs_1 : List (Int × Int)),
     (Ent.mk (Loc.sl ao cap) (SObj.vecL (149 : TypeId) 2 encItI xs ((0 : Int), (0 : Int))) =
      Ent.mk (Loc.sl ao cap) (SObj.vecL (149 : TypeId) 2 encItI xs_1 ((0 : Int), (0 : Int))) ∧
      b = b ∧ List.length xs = List.length xs_1 ∧ false = false) ∧
      (IntKind.i64 = IntKind.i64 ∧
       IntKind.i64 = IntKind.i64 ∧
        (0 : Int) ≤ IntKind.wrap IntKind.i64 (IntKind.wrap IntKind.i64 (IntKind.wrap IntKind.i64 ((2 : Int) * i) + (1 : Int)) + (1 : Int)) ∧
         IntKind.wrap IntKind.i64 (IntKind.wrap IntKind.i64 (IntKind.wrap IntKind.i64 ((2 : Int) * i) + (1 : Int)) + (1 : Int)) < (↑(List.length xs_1) : Int) ∧
          (0 : Int) ≤ IntKind.wrap IntKind.i64 (IntKind.wrap IntKind.i64 ((2 : Int) * i) + (1 : Int)) ∧
           IntKind.wrap IntKind.i64 (IntKind.wrap IntKind.i64 ((2 : Int) * i) + (1 : Int)) < (↑(List.length xs_1) : Int)) ∧
       ∃ (bef : Int → Int → Bool),
        RI f bef ∧
         match
          lessI bef
           (List.getD xs_1 (Int.toNat (IntKind.wrap IntKind.i64 (IntKind.wrap IntKind.i64 (IntKind.wrap IntKind.i64 ((2 : Int) * i) + (1 : Int)) + (1 : Int)))) ((0 : Int), (0 : Int)))
           (List.getD xs_1 (Int.toNat (IntKind.wrap IntKind.i64 (IntKind.wrap IntKind.i64 ((2 : Int) * i) + (1 : Int)))) ((0 : Int), (0 : Int))) with
         | true =>
          true = true ∧
           ∃ (xs_2 : List (Int × Int)),
            (Ent.mk (Loc.sl ao cap) (SObj.vecL (149 : TypeId) 2 encItI xs ((0 : Int), (0 : Int))) =
             Ent.mk (Loc.sl ao cap) (SObj.vecL (149 : TypeId) 2 encItI xs_2 ((0 : Int), (0 : Int))) ∧
             b = b ∧ List.length xs = List.length xs_2 ∧ false = false) ∧
             (IntKind.i64 = IntKind.i64 ∧
              IntKind.i64 = IntKind.i64 ∧
               (0 : Int) ≤ IntKind.wrap IntKind.i64 (IntKind.wrap IntKind.i64 (IntKind.wrap IntKind.i64 ((2 : Int) * i) + (1 : Int)) + (1 : Int)) ∧
                IntKind.wrap IntKind.i64 (IntKind.wrap IntKind.i64 (IntKind.wrap IntKind.i64 ((2 : Int) * i) + (1 : Int)) + (1 : Int)) < (↑(List.length xs_2) : Int) ∧
                 (0 : Int) ≤ i ∧ i < (↑(List.length xs_2) : Int)) ∧
              ∃ (bef_1 : Int → Int → Bool),
               RI f bef_1 ∧
                match
                 !lessI bef_1
                  (List.getD xs_2 (Int.toNat (IntKind.wrap IntKind.i64 (IntKind.wrap IntKind.i64 (IntKind.wrap IntKind.i64 ((2 : Int) * i) + (1 : Int)) + (1 : Int))))
                   ((0 : Int), (0 : Int)))
                  (List.getD xs_2 (Int.toNat i) ((0 : Int), (0 : Int))) with
                | true =>
                 N
                  [Ent.mk (Loc.blk b) (SObj.cells (SV.vec 1 ao (List.length xs) cap :: SV.func (Fn.func f) [] [] :: rest) T),
                   Ent.mk (Loc.sl ao cap) (SObj.vecL (149 : TypeId) 2 encItI xs ((0 : Int), (0 : Int)))]
                  (SV.bool (decide (i > i0)))
                | false =>
                 true = true ∧
                  ∃ (xs_3 : List (Int × Int)),
                   (Ent.mk (Loc.sl ao cap) (SObj.vecL (149 : TypeId) 2 encItI xs ((0 : Int), (0 : Int))) =
                    Ent.mk (Loc.sl ao cap) (SObj.vecL (149 : TypeId) 2 encItI xs_3 ((0 : Int), (0 : Int))) ∧
                    b = b ∧ List.length xs = List.length xs_3 ∧ false = false) ∧
                    (IntKind.i64 = IntKind.i64 ∧
                     IntKind.i64 = IntKind.i64 ∧
                      (0 : Int) ≤ i ∧
                       i < (↑(List.length xs_3) : Int) ∧
                        (0 : Int) ≤ IntKind.wrap IntKind.i64 (IntKind.wrap IntKind.i64 (IntKind.wrap IntKind.i64 ((2 : Int) * i) + (1 : Int)) + (1 : Int)) ∧
                         IntKind.wrap IntKind.i64 (IntKind.wrap IntKind.i64 (IntKind.wrap IntKind.i64 ((2 : Int) * i) + (1 : Int)) + (1 : Int)) <
                          (↑(List.length xs_3) : Int)) ∧
                     K (Frm.loop J :: Frm.blk 0 :: frm [] (bodyOf Try.f100) [1, 1, 1] [])
                      (Sy.mk
                       [SV.iface (147 : TypeId) (SV.ptr 0 b 0), SV.int IntKind.i64 i0, SV.int IntKind.i64 n, SV.raw (u 3), SV.raw (u 4),
                        SV.raw (u 5), SV.raw (u 6),
                        SV.int IntKind.i64 (IntKind.wrap IntKind.i64 (IntKind.wrap IntKind.i64 (IntKind.wrap IntKind.i64 ((2 : Int) * i) + (1 : Int)) + (1 : Int))),
                        SV.int IntKind.i64 (IntKind.wrap IntKind.i64 (IntKind.wrap IntKind.i64 ((2 : Int) * i) + (1 : Int))),
                        SV.int IntKind.i64 (IntKind.wrap IntKind.i64 (IntKind.wrap IntKind.i64 (IntKind.wrap IntKind.i64 ((2 : Int) * i) + (1 : Int)) + (1 : Int))),
                        SV.int IntKind.i64 (IntKind.wrap IntKind.i64 (IntKind.wrap IntKind.i64 (IntKind.wrap IntKind.i64 ((2 : Int) * i) + (1 : Int)) + (1 : Int))),
                        SV.raw (u 11), SV.int IntKind.i64 i, SV.int IntKind.i64 (IntKind.wrap IntKind.i64 ((2 : Int) * i)),
                        SV.int IntKind.i64 (IntKind.wrap IntKind.i64 (IntKind.wrap IntKind.i64 ((2 : Int) * i) + (1 : Int))),
                        SV.int IntKind.i64 (IntKind.wrap IntKind.i64 (IntKind.wrap IntKind.i64 ((2 : Int) * i) + (1 : Int))), SV.int IntKind.i64 n,
                        SV.bool (decide (IntKind.wrap IntKind.i64 (IntKind.wrap IntKind.i64 ((2 : Int) * i) + (1 : Int)) ≥ n)), SV.bool false,
                        SV.int IntKind.i64 (IntKind.wrap IntKind.i64 (IntKind.wrap IntKind.i64 ((2 : Int) * i) + (1 : Int))),
                        SV.bool (decide (IntKind.wrap IntKind.i64 (IntKind.wrap IntKind.i64 ((2 : Int) * i) + (1 : Int)) < (0 : Int))), SV.bool false,
                        SV.int IntKind.i64 (IntKind.wrap IntKind.i64 (IntKind.wrap IntKind.i64 ((2 : Int) * i) + (1 : Int))),
                        SV.int IntKind.i64 (IntKind.wrap IntKind.i64 (IntKind.wrap IntKind.i64 ((2 : Int) * i) + (1 : Int))),
                        SV.int IntKind.i64 (IntKind.wrap IntKind.i64 (IntKind.wrap IntKind.i64 (IntKind.wrap IntKind.i64 ((2 : Int) * i) + (1 : Int)) + (1 : Int))),
                        SV.int IntKind.i64 (IntKind.wrap IntKind.i64 (IntKind.wrap IntKind.i64 (IntKind.wrap IntKind.i64 ((2 : Int) * i) + (1 : Int)) + (1 : Int))),
                        SV.int IntKind.i64 n,
                        SV.bool (decide (IntKind.wrap IntKind.i64 (IntKind.wrap IntKind.i64 (IntKind.wrap IntKind.i64 ((2 : Int) * i) + (1 : Int)) + (1 : Int)) < n)),
                        SV.bool true, SV.iface (147 : TypeId) (SV.ptr 0 b 0),
                        SV.int IntKind.i64 (IntKind.wrap IntKind.i64 (IntKind.wrap IntKind.i64 (IntKind.wrap IntKind.i64 ((2 : Int) * i) + (1 : Int)) + (1 : Int))),
                        SV.int IntKind.i64 (IntKind.wrap IntKind.i64 (IntKind.wrap IntKind.i64 ((2 : Int) * i) + (1 : Int))),
                        SV.bool
                         (lessI bef
                          (List.getD xs_1 (Int.toNat (IntKind.wrap IntKind.i64 (IntKind.wrap IntKind.i64 (IntKind.wrap IntKind.i64 ((2 : Int) * i) + (1 : Int)) + (1 : Int))))
                           ((0 : Int), (0 : Int)))
                          (List.getD xs_1 (Int.toNat (IntKind.wrap IntKind.i64 (IntKind.wrap IntKind.i64 ((2 : Int) * i) + (1 : Int)))) ((0 : Int), (0 : Int)))),
                        SV.bool true,
                        SV.int IntKind.i64 (IntKind.wrap IntKind.i64 (IntKind.wrap IntKind.i64 (IntKind.wrap IntKind.i64 ((2 : Int) * i) + (1 : Int)) + (1 : Int))),
                        SV.iface (147 : TypeId) (SV.ptr 0 b 0),
                        SV.int IntKind.i64 (IntKind.wrap IntKind.i64 (IntKind.wrap IntKind.i64 (IntKind.wrap IntKind.i64 ((2 : Int) * i) + (1 : Int)) + (1 : Int))),
                        SV.int IntKind.i64 i,
                        SV.bool
                         (lessI bef_1
                          (List.getD xs_2 (Int.toNat (IntKind.wrap IntKind.i64 (IntKind.wrap IntKind.i64 (IntKind.wrap IntKind.i64 ((2 : Int) * i) + (1 : Int)) + (1 : Int))))
                           ((0 : Int), (0 : Int)))
                          (List.getD xs_2 (Int.toNat i) ((0 : Int), (0 : Int)))),
                        SV.bool false, SV.iface (147 : TypeId) (SV.ptr 0 b 0), SV.int IntKind.i64 i,
                        SV.int IntKind.i64 (IntKind.wrap IntKind.i64 (IntKind.wrap IntKind.i64 (IntKind.wrap IntKind.i64 ((2 : Int) * i) + (1 : Int)) + (1 : Int))),
                        SV.tuple [],
                        SV.int IntKind.i64 (IntKind.wrap IntKind.i64 (IntKind.wrap IntKind.i64 (IntKind.wrap IntKind.i64 ((2 : Int) * i) + (1 : Int)) + (1 : Int))),
                        SV.raw (u 45), SV.raw (u 46), SV.raw (u 47)]
                       [Ent.mk (Loc.blk b)
                        (SObj.cells
                         (SV.vec 1 ao
                          (List.length
                           (swapL ((0 : Int), (0 : Int)) xs_3 (Int.toNat i)
                            (Int.toNat (IntKind.wrap IntKind.i64 (IntKind.wrap IntKind.i64 (IntKind.wrap IntKind.i64 ((2 : Int) * i) + (1 : Int)) + (1 : Int))))))
                          cap ::
                          SV.func (Fn.func f) [] [] :: rest)
                         T),
                        Ent.mk (Loc.sl ao cap)
                         (SObj.vecL (149 : TypeId) 2 encItI
                          (swapL ((0 : Int), (0 : Int)) xs_3 (Int.toNat i)
                           (Int.toNat (IntKind.wrap IntKind.i64 (IntKind.wrap IntKind.i64 (IntKind.wrap IntKind.i64 ((2 : Int) * i) + (1 : Int)) + (1 : Int)))))
                          ((0 : Int), (0 : Int)))])
         | false =>
          true = true ∧
           ∃ (xs_2 : List (Int × Int)),
            (Ent.mk (Loc.sl ao cap) (SObj.vecL (149 : TypeId) 2 encItI xs ((0 : Int), (0 : Int))) =
             Ent.mk (Loc.sl ao cap) (SObj.vecL (149 : TypeId) 2 encItI xs_2 ((0 : Int), (0 : Int))) ∧
             b = b ∧ List.length xs = List.length xs_2 ∧ false = false) ∧
             (IntKind.i64 = IntKind.i64 ∧
              IntKind.i64 = IntKind.i64 ∧
               (0 : Int) ≤ IntKind.wrap IntKind.i64 (IntKind.wrap IntKind.i64 ((2 : Int) * i) + (1 : Int)) ∧
                IntKind.wrap IntKind.i64 (IntKind.wrap IntKind.i64 ((2 : Int) * i) + (1 : Int)) < (↑(List.length xs_2) : Int) ∧ (0 : Int) ≤ i ∧ i < (↑(List.length xs_2) : Int)) ∧
              ∃ (bef_1 : Int → Int → Bool),
               RI f bef_1 ∧
                match
                 !lessI bef_1 (List.getD xs_2 (Int.toNat (IntKind.wrap IntKind.i64 (IntKind.wrap IntKind.i64 ((2 : Int) * i) + (1 : Int)))) ((0 : Int), (0 : Int)))
                  (List.getD xs_2 (Int.toNat i) ((0 : Int), (0 : Int))) with
                | true =>
                 N
                  [Ent.mk (Loc.blk b) (SObj.cells (SV.vec 1 ao (List.length xs) cap :: SV.func (Fn.func f) [] [] :: rest) T),
                   Ent.mk (Loc.sl ao cap) (SObj.vecL (149 : TypeId) 2 encItI xs ((0 : Int), (0 : Int)))]
                  (SV.bool (decide (i > i0)))
                | false =>
                 true = true ∧
                  ∃ (xs_3 : List (Int × Int)),
                   (Ent.mk (Loc.sl ao cap) (SObj.vecL (149 : TypeId) 2 encItI xs ((0 : Int), (0 : Int))) =
                    Ent.mk (Loc.sl ao cap) (SObj.vecL (149 : TypeId) 2 encItI xs_3 ((0 : Int), (0 : Int))) ∧
                    b = b ∧ List.length xs = List.length xs_3 ∧ false = false) ∧
                    (IntKind.i64 = IntKind.i64 ∧
                     IntKind.i64 = IntKind.i64 ∧
                      (0 : Int) ≤ i ∧
                       i < (↑(List.length xs_3) : Int) ∧
                        (0 : Int) ≤ IntKind.wrap IntKind.i64 (IntKind.wrap IntKind.i64 ((2 : Int) * i) + (1 : Int)) ∧
                         IntKind.wrap IntKind.i64 (IntKind.wrap IntKind.i64 ((2 : Int) * i) + (1 : Int)) < (↑(List.length xs_3) : Int)) ∧
                     K (Frm.loop J :: Frm.blk 0 :: frm [] (bodyOf Try.f100) [1, 1, 1] [])
                      (Sy.mk
                       [SV.iface (147 : TypeId) (SV.ptr 0 b 0), SV.int IntKind.i64 i0, SV.int IntKind.i64 n, SV.raw (u 3), SV.raw (u 4),
                        SV.raw (u 5), SV.raw (u 6), SV.int IntKind.i64 (IntKind.wrap IntKind.i64 (IntKind.wrap IntKind.i64 ((2 : Int) * i) + (1 : Int))),
                        SV.int IntKind.i64 (IntKind.wrap IntKind.i64 (IntKind.wrap IntKind.i64 ((2 : Int) * i) + (1 : Int))),
                        SV.int IntKind.i64 (IntKind.wrap IntKind.i64 (IntKind.wrap IntKind.i64 ((2 : Int) * i) + (1 : Int))),
                        SV.int IntKind.i64 (IntKind.wrap IntKind.i64 (IntKind.wrap IntKind.i64 (IntKind.wrap IntKind.i64 ((2 : Int) * i) + (1 : Int)) + (1 : Int))),
                        SV.raw (u 11), SV.int IntKind.i64 i, SV.int IntKind.i64 (IntKind.wrap IntKind.i64 ((2 : Int) * i)),
                        SV.int IntKind.i64 (IntKind.wrap IntKind.i64 (IntKind.wrap IntKind.i64 ((2 : Int) * i) + (1 : Int))),
                        SV.int IntKind.i64 (IntKind.wrap IntKind.i64 (IntKind.wrap IntKind.i64 ((2 : Int) * i) + (1 : Int))), SV.int IntKind.i64 n,
                        SV.bool (decide (IntKind.wrap IntKind.i64 (IntKind.wrap IntKind.i64 ((2 : Int) * i) + (1 : Int)) ≥ n)), SV.bool false,
                        SV.int IntKind.i64 (IntKind.wrap IntKind.i64 (IntKind.wrap IntKind.i64 ((2 : Int) * i) + (1 : Int))),
                        SV.bool (decide (IntKind.wrap IntKind.i64 (IntKind.wrap IntKind.i64 ((2 : Int) * i) + (1 : Int)) < (0 : Int))), SV.bool false,
                        SV.int IntKind.i64 (IntKind.wrap IntKind.i64 (IntKind.wrap IntKind.i64 ((2 : Int) * i) + (1 : Int))),
                        SV.int IntKind.i64 (IntKind.wrap IntKind.i64 (IntKind.wrap IntKind.i64 ((2 : Int) * i) + (1 : Int))),
                        SV.int IntKind.i64 (IntKind.wrap IntKind.i64 (IntKind.wrap IntKind.i64 (IntKind.wrap IntKind.i64 ((2 : Int) * i) + (1 : Int)) + (1 : Int))),
                        SV.int IntKind.i64 (IntKind.wrap IntKind.i64 (IntKind.wrap IntKind.i64 (IntKind.wrap IntKind.i64 ((2 : Int) * i) + (1 : Int)) + (1 : Int))),
                        SV.int IntKind.i64 n,
                        SV.bool (decide (IntKind.wrap IntKind.i64 (IntKind.wrap IntKind.i64 (IntKind.wrap IntKind.i64 ((2 : Int) * i) + (1 : Int)) + (1 : Int)) < n)),
                        SV.bool true, SV.iface (147 : TypeId) (SV.ptr 0 b 0),
                        SV.int IntKind.i64 (IntKind.wrap IntKind.i64 (IntKind.wrap IntKind.i64 (IntKind.wrap IntKind.i64 ((2 : Int) * i) + (1 : Int)) + (1 : Int))),
                        SV.int IntKind.i64 (IntKind.wrap IntKind.i64 (IntKind.wrap IntKind.i64 ((2 : Int) * i) + (1 : Int))),
                        SV.bool
                         (lessI bef
                          (List.getD xs_1 (Int.toNat (IntKind.wrap IntKind.i64 (IntKind.wrap IntKind.i64 (IntKind.wrap IntKind.i64 ((2 : Int) * i) + (1 : Int)) + (1 : Int))))
                           ((0 : Int), (0 : Int)))
                          (List.getD xs_1 (Int.toNat (IntKind.wrap IntKind.i64 (IntKind.wrap IntKind.i64 ((2 : Int) * i) + (1 : Int)))) ((0 : Int), (0 : Int)))),
                        SV.bool false, SV.raw (u 34), SV.iface (147 : TypeId) (SV.ptr 0 b 0),
                        SV.int IntKind.i64 (IntKind.wrap IntKind.i64 (IntKind.wrap IntKind.i64 ((2 : Int) * i) + (1 : Int))), SV.int IntKind.i64 i,
                        SV.bool
                         (lessI bef_1 (List.getD xs_2 (Int.toNat (IntKind.wrap IntKind.i64 (IntKind.wrap IntKind.i64 ((2 : Int) * i) + (1 : Int)))) ((0 : Int), (0 : Int)))
                          (List.getD xs_2 (Int.toNat i) ((0 : Int), (0 : Int)))),
                        SV.bool false, SV.iface (147 : TypeId) (SV.ptr 0 b 0), SV.int IntKind.i64 i,
                        SV.int IntKind.i64 (IntKind.wrap IntKind.i64 (IntKind.wrap IntKind.i64 ((2 : Int) * i) + (1 : Int))), SV.tuple [],
                        SV.int IntKind.i64 (IntKind.wrap IntKind.i64 (IntKind.wrap IntKind.i64 ((2 : Int) * i) + (1 : Int))), SV.raw (u 45), SV.raw (u 46),
                        SV.raw (u 47)]
                       [Ent.mk (Loc.blk b)
                        (SObj.cells
                         (SV.vec 1 ao
                          (List.length
                           (swapL ((0 : Int), (0 : Int)) xs_3 (Int.toNat i)
                            (Int.toNat (IntKind.wrap IntKind.i64 (IntKind.wrap IntKind.i64 ((2 : Int) * i) + (1 : Int))))))
                          cap ::
                          SV.func (Fn.func f) [] [] :: rest)
                         T),
                        Ent.mk (Loc.sl ao cap)
                         (SObj.vecL (149 : TypeId) 2 encItI
                          (swapL ((0 : Int), (0 : Int)) xs_3 (Int.toNat i) (Int.toNat (IntKind.wrap IntKind.i64 (IntKind.wrap IntKind.i64 ((2 : Int) * i) + (1 : Int)))))
                          ((0 : Int), (0 : Int)))])
  | false =>
   true = true ∧
    ∃ (xs_1 : List (Int × Int)),
     (Ent.mk (Loc.sl ao cap) (SObj.vecL (149 : TypeId) 2 encItI xs ((0 : Int), (0 : Int))) =
      Ent.mk (Loc.sl ao cap) (SObj.vecL (149 : TypeId) 2 encItI xs_1 ((0 : Int), (0 : Int))) ∧
      b = b ∧ List.length xs = List.length xs_1 ∧ false = false) ∧
      (IntKind.i64 = IntKind.i64 ∧
       IntKind.i64 = IntKind.i64 ∧
        (0 : Int) ≤ IntKind.wrap IntKind.i64 (IntKind.wrap IntKind.i64 ((2 : Int) * i) + (1 : Int)) ∧
         IntKind.wrap IntKind.i64 (IntKind.wrap IntKind.i64 ((2 : Int) * i) + (1 : Int)) < (↑(List.length xs_1) : Int) ∧ (0 : Int) ≤ i ∧ i < (↑(List.length xs_1) : Int)) ∧
       ∃ (bef : Int → Int → Bool),
        RI f bef ∧
         match
          !lessI bef (List.getD xs_1 (Int.toNat (IntKind.wrap IntKind.i64 (IntKind.wrap IntKind.i64 ((2 : Int) * i) + (1 : Int)))) ((0 : Int), (0 : Int)))
           (List.getD xs_1 (Int.toNat i) ((0 : Int), (0 : Int))) with
         | true =>
          N
           [Ent.mk (Loc.blk b) (SObj.cells (SV.vec 1 ao (List.length xs) cap :: SV.func (Fn.func f) [] [] :: rest) T),
            Ent.mk (Loc.sl ao cap) (SObj.vecL (149 : TypeId) 2 encItI xs ((0 : Int), (0 : Int)))]
           (SV.bool (decide (i > i0)))
         | false =>
          true = true ∧
           ∃ (xs_2 : List (Int × Int)),
            (Ent.mk (Loc.sl ao cap) (SObj.vecL (149 : TypeId) 2 encItI xs ((0 : Int), (0 : Int))) =
             Ent.mk (Loc.sl ao cap) (SObj.vecL (149 : TypeId) 2 encItI xs_2 ((0 : Int), (0 : Int))) ∧
             b = b ∧ List.length xs = List.length xs_2 ∧ false = false) ∧
             (IntKind.i64 = IntKind.i64 ∧
              IntKind.i64 = IntKind.i64 ∧
               (0 : Int) ≤ i ∧
                i < (↑(List.length xs_2) : Int) ∧
                 (0 : Int) ≤ IntKind.wrap IntKind.i64 (IntKind.wrap IntKind.i64 ((2 : Int) * i) + (1 : Int)) ∧
                  IntKind.wrap IntKind.i64 (IntKind.wrap IntKind.i64 ((2 : Int) * i) + (1 : Int)) < (↑(List.length xs_2) : Int)) ∧
              K (Frm.loop J :: Frm.blk 0 :: frm [] (bodyOf Try.f100) [1, 1, 1] [])
               (Sy.mk
                [SV.iface (147 : TypeId) (SV.ptr 0 b 0), SV.int IntKind.i64 i0, SV.int IntKind.i64 n, SV.raw (u 3), SV.raw (u 4), SV.raw (u 5),
                 SV.raw (u 6), SV.int IntKind.i64 (IntKind.wrap IntKind.i64 (IntKind.wrap IntKind.i64 ((2 : Int) * i) + (1 : Int))),
                 SV.int IntKind.i64 (IntKind.wrap IntKind.i64 (IntKind.wrap IntKind.i64 ((2 : Int) * i) + (1 : Int))),
                 SV.int IntKind.i64 (IntKind.wrap IntKind.i64 (IntKind.wrap IntKind.i64 ((2 : Int) * i) + (1 : Int))),
                 SV.int IntKind.i64 (IntKind.wrap IntKind.i64 (IntKind.wrap IntKind.i64 (IntKind.wrap IntKind.i64 ((2 : Int) * i) + (1 : Int)) + (1 : Int))), SV.raw (u 11),
                 SV.int IntKind.i64 i, SV.int IntKind.i64 (IntKind.wrap IntKind.i64 ((2 : Int) * i)),
                 SV.int IntKind.i64 (IntKind.wrap IntKind.i64 (IntKind.wrap IntKind.i64 ((2 : Int) * i) + (1 : Int))),
                 SV.int IntKind.i64 (IntKind.wrap IntKind.i64 (IntKind.wrap IntKind.i64 ((2 : Int) * i) + (1 : Int))), SV.int IntKind.i64 n,
                 SV.bool (decide (IntKind.wrap IntKind.i64 (IntKind.wrap IntKind.i64 ((2 : Int) * i) + (1 : Int)) ≥ n)), SV.bool false,
                 SV.int IntKind.i64 (IntKind.wrap IntKind.i64 (IntKind.wrap IntKind.i64 ((2 : Int) * i) + (1 : Int))),
                 SV.bool (decide (IntKind.wrap IntKind.i64 (IntKind.wrap IntKind.i64 ((2 : Int) * i) + (1 : Int)) < (0 : Int))), SV.bool false,
                 SV.int IntKind.i64 (IntKind.wrap IntKind.i64 (IntKind.wrap IntKind.i64 ((2 : Int) * i) + (1 : Int))),
                 SV.int IntKind.i64 (IntKind.wrap IntKind.i64 (IntKind.wrap IntKind.i64 ((2 : Int) * i) + (1 : Int))),
                 SV.int IntKind.i64 (IntKind.wrap IntKind.i64 (IntKind.wrap IntKind.i64 (IntKind.wrap IntKind.i64 ((2 : Int) * i) + (1 : Int)) + (1 : Int))),
                 SV.int IntKind.i64 (IntKind.wrap IntKind.i64 (IntKind.wrap IntKind.i64 (IntKind.wrap IntKind.i64 ((2 : Int) * i) + (1 : Int)) + (1 : Int))), SV.int IntKind.i64 n,
                 SV.bool (decide (IntKind.wrap IntKind.i64 (IntKind.wrap IntKind.i64 (IntKind.wrap IntKind.i64 ((2 : Int) * i) + (1 : Int)) + (1 : Int)) < n)), SV.bool false,
                 SV.raw (Value.tuple #[]), SV.raw (Value.tuple #[]), SV.raw (Value.tuple #[]), SV.raw (Value.tuple #[]), SV.bool false, SV.raw (u 34),
                 SV.iface (147 : TypeId) (SV.ptr 0 b 0), SV.int IntKind.i64 (IntKind.wrap IntKind.i64 (IntKind.wrap IntKind.i64 ((2 : Int) * i) + (1 : Int))),
                 SV.int IntKind.i64 i,
                 SV.bool
                  (lessI bef (List.getD xs_1 (Int.toNat (IntKind.wrap IntKind.i64 (IntKind.wrap IntKind.i64 ((2 : Int) * i) + (1 : Int)))) ((0 : Int), (0 : Int)))
                   (List.getD xs_1 (Int.toNat i) ((0 : Int), (0 : Int)))),
                 SV.bool false, SV.iface (147 : TypeId) (SV.ptr 0 b 0), SV.int IntKind.i64 i,
                 SV.int IntKind.i64 (IntKind.wrap IntKind.i64 (IntKind.wrap IntKind.i64 ((2 : Int) * i) + (1 : Int))), SV.tuple [],
                 SV.int IntKind.i64 (IntKind.wrap IntKind.i64 (IntKind.wrap IntKind.i64 ((2 : Int) * i) + (1 : Int))), SV.raw (u 45), SV.raw (u 46),
                 SV.raw (u 47)]
                [Ent.mk (Loc.blk b)
                 (SObj.cells
                  (SV.vec 1 ao
                   (List.length (swapL ((0 : Int), (0 : Int)) xs_2 (Int.toNat i) (Int.toNat (IntKind.wrap IntKind.i64 (IntKind.wrap IntKind.i64 ((2 : Int) * i) + (1 : Int))))))
                   cap ::
                   SV.func (Fn.func f) [] [] :: rest)
                  T),
                 Ent.mk (Loc.sl ao cap)
                  (SObj.vecL (149 : TypeId) 2 encItI
                   (swapL ((0 : Int), (0 : Int)) xs_2 (Int.toNat i) (Int.toNat (IntKind.wrap IntKind.i64 (IntKind.wrap IntKind.i64 ((2 : Int) * i) + (1 : Int)))))
                   ((0 : Int), (0 : Int)))])) := by kernel_rfl


theorem qIhpush (K : List Frm → Sy → Prop) (N : List Ent → SV → Prop) (J : Act → World → Prop) (u : Nat → Value) (b cap : Nat) (ao : Option Addr) (rest : List SV) (T : TypeId) (xs : List (Int × Int)) (f : FuncId) (v : Int × Int) : (run Try.prog qTI2 false [] K (retP Try.prog Try.f80.results.toList N) 900 [.code (bodyOf Try.f80)] ⟨padTo 12 [(.iface 147 (.ptr 0 b 0)), .iface 149 (.agg (encItI v))], qhG 149 2 encItI ((0 : Int), (0 : Int)) b ao cap f rest T xs⟩) = (
true = true ∧
 ∃ (xs_1 : List (Int × Int)),
  (Ent.mk (Loc.sl ao cap) (SObj.vecL (149 : TypeId) 2 encItI xs ((0 : Int), (0 : Int))) = Ent.mk (Loc.sl ao cap) (SObj.vecL (149 : TypeId) 2 encItI xs_1 ((0 : Int), (0 : Int))) ∧
   b = b ∧ List.length xs = List.length xs_1 ∧ false = false) ∧
   ∃ (x : Int × Int),
    ((149 : TypeId) = (149 : TypeId) ∧
     [SV.int IntKind.i64 x.1, SV.int IntKind.i64 x.2] = [SV.int IntKind.i64 v.1, SV.int IntKind.i64 v.2] ∧
      (List.length xs_1 + 1) * 16 ≤ 140737488355328 ∧ List.length xs_1 + 1 ≤ 9223372036854775807) ∧
     ∀ (ao2 : Option Addr) (cap2 : Nat),
      true = true ∧
       b = b ∧
        true = true ∧
         ∃ (xs : List (Int × Int)),
          (Ent.mk (Loc.sl ao2 cap2) (SObj.vecL (149 : TypeId) 2 encItI (xs_1 ++ [x]) ((0 : Int), (0 : Int))) =
           Ent.mk (Loc.sl ao2 cap2) (SObj.vecL (149 : TypeId) 2 encItI xs ((0 : Int), (0 : Int))) ∧
           b = b ∧ List.length (xs_1 ++ [x]) = List.length xs ∧ false = false) ∧
           ((147 : TypeId) = (147 : TypeId) ∧
            IntKind.i64 = IntKind.i64 ∧
             (0 : Int) ≤ IntKind.wrap IntKind.i64 ((↑(List.length (xs_1 ++ [x])) : Int) - (1 : Int)) ∧
              IntKind.wrap IntKind.i64 ((↑(List.length (xs_1 ++ [x])) : Int) - (1 : Int)) < (↑(List.length xs) : Int) ∧ List.length xs ≤ 2305843009213693952) ∧
            ∃ (bef : Int → Int → Bool),
             RI f bef ∧
              N
               [Ent.mk (Loc.blk b)
                (SObj.cells
                 (SV.vec 1 ao2
                  (List.length
                   (upL (lessI bef) ((0 : Int), (0 : Int)) (Int.toNat (IntKind.wrap IntKind.i64 ((↑(List.length (xs_1 ++ [x])) : Int) - (1 : Int)))) xs
                    (Int.toNat (IntKind.wrap IntKind.i64 ((↑(List.length (xs_1 ++ [x])) : Int) - (1 : Int))))))
                  cap2 ::
                  SV.func (Fn.func f) [] [] :: rest)
                 T),
                Ent.mk (Loc.sl ao2 cap2)
                 (SObj.vecL (149 : TypeId) 2 encItI
                  (upL (lessI bef) ((0 : Int), (0 : Int)) (Int.toNat (IntKind.wrap IntKind.i64 ((↑(List.length (xs_1 ++ [x])) : Int) - (1 : Int)))) xs
                   (Int.toNat (IntKind.wrap IntKind.i64 ((↑(List.length (xs_1 ++ [x])) : Int) - (1 : Int)))))
                  ((0 : Int), (0 : Int)))]
               (SV.tuple [])) := by kernel_rfl


theorem qIhpop (K : List Frm → Sy → Prop) (N : List Ent → SV → Prop) (J : Act → World → Prop) (u : Nat → Value) (b cap : Nat) (ao : Option Addr) (rest : List SV) (T : TypeId) (xs : List (Int × Int)) (f : FuncId) : (run Try.prog qTI2 false [] K (retP Try.prog Try.f81.results.toList N) 900 [.code (bodyOf Try.f81)] ⟨padTo 15 [(.iface 147 (.ptr 0 b 0))], qhG 149 2 encItI ((0 : Int), (0 : Int)) b ao cap f rest T xs⟩) = (
true = true ∧
 b = b ∧
  true = true ∧
   ∃ (xs_1 : List (Int × Int)),
    (Ent.mk (Loc.sl ao cap) (SObj.vecL (149 : TypeId) 2 encItI xs ((0 : Int), (0 : Int))) = Ent.mk (Loc.sl ao cap) (SObj.vecL (149 : TypeId) 2 encItI xs_1 ((0 : Int), (0 : Int))) ∧
     b = b ∧ List.length xs = List.length xs_1 ∧ false = false) ∧
     (IntKind.i64 = IntKind.i64 ∧
      IntKind.i64 = IntKind.i64 ∧
       (0 : Int) ≤ (0 : Int) ∧
        (0 : Int) < (↑(List.length xs_1) : Int) ∧
         (0 : Int) ≤ IntKind.wrap IntKind.i64 ((↑(List.length xs) : Int) - (1 : Int)) ∧ IntKind.wrap IntKind.i64 ((↑(List.length xs) : Int) - (1 : Int)) < (↑(List.length xs_1) : Int)) ∧
      true = true ∧
       ∃ (xs_2 : List (Int × Int)),
        (Ent.mk (Loc.sl ao cap)
         (SObj.vecL (149 : TypeId) 2 encItI (swapL ((0 : Int), (0 : Int)) xs_1 0 (Int.toNat (IntKind.wrap IntKind.i64 ((↑(List.length xs) : Int) - (1 : Int)))))
          ((0 : Int), (0 : Int))) =
         Ent.mk (Loc.sl ao cap) (SObj.vecL (149 : TypeId) 2 encItI xs_2 ((0 : Int), (0 : Int))) ∧
         b = b ∧
          List.length (swapL ((0 : Int), (0 : Int)) xs_1 0 (Int.toNat (IntKind.wrap IntKind.i64 ((↑(List.length xs) : Int) - (1 : Int))))) = List.length xs_2 ∧ false = false) ∧
         ((147 : TypeId) = (147 : TypeId) ∧
          IntKind.i64 = IntKind.i64 ∧
           IntKind.i64 = IntKind.i64 ∧
            (0 : Int) = (0 : Int) ∧
             (0 : Int) ≤ IntKind.wrap IntKind.i64 ((↑(List.length xs) : Int) - (1 : Int)) ∧
              IntKind.wrap IntKind.i64 ((↑(List.length xs) : Int) - (1 : Int)) ≤ (↑(List.length xs_2) : Int) ∧ List.length xs_2 ≤ 2305843009213693952) ∧
          ∃ (bef : Int → Int → Bool),
           RI f bef ∧
            ∀ (bb : Bool),
             true = true ∧
              ∃ (xs_3 : List (Int × Int)),
               (Ent.mk (Loc.sl ao cap)
                (SObj.vecL (149 : TypeId) 2 encItI
                 (downL (lessI bef) ((0 : Int), (0 : Int)) (List.length xs_2) xs_2 0 (Int.toNat (IntKind.wrap IntKind.i64 ((↑(List.length xs) : Int) - (1 : Int)))))
                 ((0 : Int), (0 : Int))) =
                Ent.mk (Loc.sl ao cap) (SObj.vecL (149 : TypeId) 2 encItI xs_3 ((0 : Int), (0 : Int))) ∧
                b = b ∧
                 List.length
                  (downL (lessI bef) ((0 : Int), (0 : Int)) (List.length xs_2) xs_2 0 (Int.toNat (IntKind.wrap IntKind.i64 ((↑(List.length xs) : Int) - (1 : Int))))) =
                  List.length xs_3 ∧
                  false = false) ∧
                (0 < List.length xs_3 ∧ List.length xs_3 ≤ 9223372036854775807) ∧
                 N
                  [Ent.mk (Loc.blk b) (SObj.cells (SV.vec 1 ao (List.length (List.take (List.length xs_3 - 1) xs_3)) cap :: SV.func (Fn.func f) [] [] :: rest) T),
                   Ent.mk (Loc.sl ao cap) (SObj.vecL (149 : TypeId) 2 encItI (List.take (List.length xs_3 - 1) xs_3) ((0 : Int), (0 : Int)))]
                  (SV.iface (149 : TypeId)
                   (SV.agg
                    [SV.int IntKind.i64 (List.getD xs_3 (List.length xs_3 - 1) ((0 : Int), (0 : Int))).1,
                     SV.int IntKind.i64 (List.getD xs_3 (List.length xs_3 - 1) ((0 : Int), (0 : Int))).2]))) := by kernel_rfl
end Go.Proofs.Ytjnkfgigpapeaaa
