import Derived.Test.YtkcmgcoppecfpaaMgLoopOnce7
import Derived.Test.YtkcmgcoppecfpaaMgLoopOnce5
import Derived.Test.YtkcmgcoppecfpaaMgLoopOnce8
set_option linter.unusedVariables false
set_option linter.unusedSimpArgs false
set_option linter.unnecessarySimpa false
set_option maxHeartbeats 0
set_option maxRecDepth 100000
namespace Go.Proofs.Ytkcmgcoppecfpaa
open Go Go.RowKit

theorem qEup_start (K : List Frm → Sy → Prop) (N : List Ent → SV → Prop) (J : Act → World → Prop) (u : Nat → Value) (b cap : Nat) (ao : Option Addr) (rest : List SV) (T : TypeId) (xs : List (EV × Int)) (f : FuncId) (j : Int) : (run Try.prog qTE1 false [] K (retP Try.prog Try.f139.results.toList N) 900 [.code (bodyOf Try.f139)] ⟨padTo 23 [(.iface 212 (.ptr 0 b 0)), .int .i64 j], qhG 214 6 encItE ((⟨0, 0, 0, ByteArray.empty, ByteArray.empty⟩ : EV), (0 : Int)) b ao cap f rest T xs⟩) = (
K (frm [] (bodyOf Try.f139) [0] [])
 (Sy.mk (SV.iface (212 : TypeId) (SV.ptr 0 b 0) :: (SV.int IntKind.i64 j :: (rawE [] 21)))
  [Ent.mk (Loc.blk b) (SObj.cells (SV.vec 1 ao (List.length xs) cap :: SV.func (Fn.func f) [] [] :: rest) T),
   Ent.mk (Loc.sl ao cap) (SObj.vecL (214 : TypeId) 6 encItE xs (EV.mk (0 : Int) (0 : Int) (0 : Int) ByteArray.empty ByteArray.empty, (0 : Int)))])) := by kernel_rfl


theorem qEup_body (K : List Frm → Sy → Prop) (N : List Ent → SV → Prop) (J : Act → World → Prop) (u : Nat → Value) (b cap : Nat) (ao : Option Addr) (rest : List SV) (T : TypeId) (xs : List (EV × Int)) (f : FuncId) (j : Int) : (run Try.prog qTE1 false [] K (retP Try.prog Try.f139.results.toList N) 900 (frm [J] (bodyOf Try.f139) [0, 0] []) ⟨mkT u 23 0 [(0, (.iface 212 (.ptr 0 b 0))), (1, .int .i64 j)], qhG 214 6 encItE ((⟨0, 0, 0, ByteArray.empty, ByteArray.empty⟩ : EV), (0 : Int)) b ao cap f rest T xs⟩) = (
(2 : Int) ≠ (0 : Int) ∧
 match IntKind.wrap IntKind.i64 (Int.tdiv (IntKind.wrap IntKind.i64 (j - (1 : Int))) (2 : Int)) == j with
 | true =>
  N
   [Ent.mk (Loc.blk b) (SObj.cells (SV.vec 1 ao (List.length xs) cap :: SV.func (Fn.func f) [] [] :: rest) T),
    Ent.mk (Loc.sl ao cap) (SObj.vecL (214 : TypeId) 6 encItE xs (EV.mk (0 : Int) (0 : Int) (0 : Int) ByteArray.empty ByteArray.empty, (0 : Int)))]
   (SV.tuple [])
 | false =>
  true = true ∧
   ∃ (xs_1 : List (EV × Int)),
    (Ent.mk (Loc.sl ao cap) (SObj.vecL (214 : TypeId) 6 encItE xs (EV.mk (0 : Int) (0 : Int) (0 : Int) ByteArray.empty ByteArray.empty, (0 : Int))) =
     Ent.mk (Loc.sl ao cap) (SObj.vecL (214 : TypeId) 6 encItE xs_1 (EV.mk (0 : Int) (0 : Int) (0 : Int) ByteArray.empty ByteArray.empty, (0 : Int))) ∧
     b = b ∧ List.length xs = List.length xs_1 ∧ false = false) ∧
     (IntKind.i64 = IntKind.i64 ∧
      IntKind.i64 = IntKind.i64 ∧
       (0 : Int) ≤ j ∧
        j < (↑(List.length xs_1) : Int) ∧
         (0 : Int) ≤ IntKind.wrap IntKind.i64 (Int.tdiv (IntKind.wrap IntKind.i64 (j - (1 : Int))) (2 : Int)) ∧
          IntKind.wrap IntKind.i64 (Int.tdiv (IntKind.wrap IntKind.i64 (j - (1 : Int))) (2 : Int)) < (↑(List.length xs_1) : Int)) ∧
      ∃ (bef : EV → EV → Bool),
       RE f bef ∧
        match
         !lessI bef (List.getD xs_1 (Int.toNat j) (EV.mk (0 : Int) (0 : Int) (0 : Int) ByteArray.empty ByteArray.empty, (0 : Int)))
          (List.getD xs_1 (Int.toNat (IntKind.wrap IntKind.i64 (Int.tdiv (IntKind.wrap IntKind.i64 (j - (1 : Int))) (2 : Int))))
           (EV.mk (0 : Int) (0 : Int) (0 : Int) ByteArray.empty ByteArray.empty, (0 : Int))) with
        | true =>
         N
          [Ent.mk (Loc.blk b) (SObj.cells (SV.vec 1 ao (List.length xs) cap :: SV.func (Fn.func f) [] [] :: rest) T),
           Ent.mk (Loc.sl ao cap) (SObj.vecL (214 : TypeId) 6 encItE xs (EV.mk (0 : Int) (0 : Int) (0 : Int) ByteArray.empty ByteArray.empty, (0 : Int)))]
          (SV.tuple [])
        | false =>
         true = true ∧
          ∃ (xs_2 : List (EV × Int)),
           (Ent.mk (Loc.sl ao cap) (SObj.vecL (214 : TypeId) 6 encItE xs (EV.mk (0 : Int) (0 : Int) (0 : Int) ByteArray.empty ByteArray.empty, (0 : Int))) =
            Ent.mk (Loc.sl ao cap) (SObj.vecL (214 : TypeId) 6 encItE xs_2 (EV.mk (0 : Int) (0 : Int) (0 : Int) ByteArray.empty ByteArray.empty, (0 : Int))) ∧
            b = b ∧ List.length xs = List.length xs_2 ∧ false = false) ∧
            (IntKind.i64 = IntKind.i64 ∧
             IntKind.i64 = IntKind.i64 ∧
              (0 : Int) ≤ IntKind.wrap IntKind.i64 (Int.tdiv (IntKind.wrap IntKind.i64 (j - (1 : Int))) (2 : Int)) ∧
               IntKind.wrap IntKind.i64 (Int.tdiv (IntKind.wrap IntKind.i64 (j - (1 : Int))) (2 : Int)) < (↑(List.length xs_2) : Int) ∧
                (0 : Int) ≤ j ∧ j < (↑(List.length xs_2) : Int)) ∧
             K [Frm.loop J, Frm.blk 0]
              (Sy.mk (SV.iface (212 : TypeId) (SV.ptr 0 b 0) :: (SV.int IntKind.i64 (IntKind.wrap IntKind.i64 (Int.tdiv (IntKind.wrap IntKind.i64 (j - (1 : Int))) (2 : Int))) :: (SV.raw (u 2) :: (SV.raw (u 3) :: (SV.int IntKind.i64 (IntKind.wrap IntKind.i64 (Int.tdiv (IntKind.wrap IntKind.i64 (j - (1 : Int))) (2 : Int))) :: (SV.int IntKind.i64 j :: (SV.int IntKind.i64 (IntKind.wrap IntKind.i64 (j - (1 : Int))) :: (SV.int IntKind.i64 (IntKind.wrap IntKind.i64 (Int.tdiv (IntKind.wrap IntKind.i64 (j - (1 : Int))) (2 : Int))) :: (SV.int IntKind.i64 (IntKind.wrap IntKind.i64 (Int.tdiv (IntKind.wrap IntKind.i64 (j - (1 : Int))) (2 : Int))) :: (SV.int IntKind.i64 j :: ((SV.bool (IntKind.wrap IntKind.i64 (Int.tdiv (IntKind.wrap IntKind.i64 (j - (1 : Int))) (2 : Int)) == j)) :: (SV.bool false :: (SV.iface (212 : TypeId) (SV.ptr 0 b 0) :: (SV.int IntKind.i64 j :: (SV.int IntKind.i64 (IntKind.wrap IntKind.i64 (Int.tdiv (IntKind.wrap IntKind.i64 (j - (1 : Int))) (2 : Int))) :: (SV.bool (lessI bef (List.getD xs_1 (Int.toNat j) (EV.mk (0 : Int) (0 : Int) (0 : Int) ByteArray.empty ByteArray.empty, (0 : Int))) (List.getD xs_1 (Int.toNat (IntKind.wrap IntKind.i64 (Int.tdiv (IntKind.wrap IntKind.i64 (j - (1 : Int))) (2 : Int)))) (EV.mk (0 : Int) (0 : Int) (0 : Int) ByteArray.empty ByteArray.empty, (0 : Int)))) :: ((SV.bool !lessI bef (List.getD xs_1 (Int.toNat j) (EV.mk (0 : Int) (0 : Int) (0 : Int) ByteArray.empty ByteArray.empty, (0 : Int))) (List.getD xs_1 (Int.toNat (IntKind.wrap IntKind.i64 (Int.tdiv (IntKind.wrap IntKind.i64 (j - (1 : Int))) (2 : Int)))) (EV.mk (0 : Int) (0 : Int) (0 : Int) ByteArray.empty ByteArray.empty, (0 : Int)))) :: (SV.bool false :: (SV.iface (212 : TypeId) (SV.ptr 0 b 0) :: (SV.int IntKind.i64 (IntKind.wrap IntKind.i64 (Int.tdiv (IntKind.wrap IntKind.i64 (j - (1 : Int))) (2 : Int))) :: (SV.int IntKind.i64 j :: (SV.tuple [] :: (SV.int IntKind.i64 (IntKind.wrap IntKind.i64 (Int.tdiv (IntKind.wrap IntKind.i64 (j - (1 : Int))) (2 : Int))) :: [])))))))))))))))))))))))
               [Ent.mk (Loc.blk b)
                (SObj.cells
                 (SV.vec 1 ao
                  (List.length
                   (swapL (EV.mk (0 : Int) (0 : Int) (0 : Int) ByteArray.empty ByteArray.empty, (0 : Int)) xs_2
                    (Int.toNat (IntKind.wrap IntKind.i64 (Int.tdiv (IntKind.wrap IntKind.i64 (j - (1 : Int))) (2 : Int)))) (Int.toNat j)))
                  cap ::
                  SV.func (Fn.func f) [] [] :: rest)
                 T),
                Ent.mk (Loc.sl ao cap)
                 (SObj.vecL (214 : TypeId) 6 encItE
                  (swapL (EV.mk (0 : Int) (0 : Int) (0 : Int) ByteArray.empty ByteArray.empty, (0 : Int)) xs_2
                   (Int.toNat (IntKind.wrap IntKind.i64 (Int.tdiv (IntKind.wrap IntKind.i64 (j - (1 : Int))) (2 : Int)))) (Int.toNat j))
                  (EV.mk (0 : Int) (0 : Int) (0 : Int) ByteArray.empty ByteArray.empty, (0 : Int)))])) := by kernel_rfl


theorem qEdn_start (K : List Frm → Sy → Prop) (N : List Ent → SV → Prop) (J : Act → World → Prop) (u : Nat → Value) (b cap : Nat) (ao : Option Addr) (rest : List SV) (T : TypeId) (xs : List (EV × Int)) (f : FuncId) (i0 n : Int) : (run Try.prog qTE1 false [] K (retP Try.prog Try.f140.results.toList N) 900 [.code (bodyOf Try.f140)] ⟨padTo 48 [(.iface 212 (.ptr 0 b 0)), .int .i64 i0, .int .i64 n], qhG 214 6 encItE ((⟨0, 0, 0, ByteArray.empty, ByteArray.empty⟩ : EV), (0 : Int)) b ao cap f rest T xs⟩) = (
K (frm [] (bodyOf Try.f140) [1, 1, 0, 0] [])
 (Sy.mk (SV.iface (212 : TypeId) (SV.ptr 0 b 0) :: (SV.int IntKind.i64 i0 :: (SV.int IntKind.i64 n :: (rawE (SV.bool false :: (SV.int IntKind.i64 i0 :: (rawE (SV.int IntKind.i64 i0 :: (rawE [] 36)) 3))) 3))))
  [Ent.mk (Loc.blk b) (SObj.cells (SV.vec 1 ao (List.length xs) cap :: SV.func (Fn.func f) [] [] :: rest) T),
   Ent.mk (Loc.sl ao cap) (SObj.vecL (214 : TypeId) 6 encItE xs (EV.mk (0 : Int) (0 : Int) (0 : Int) ByteArray.empty ByteArray.empty, (0 : Int)))])) := by kernel_rfl


theorem qEdn_body (K : List Frm → Sy → Prop) (N : List Ent → SV → Prop) (J : Act → World → Prop) (u : Nat → Value) (b cap : Nat) (ao : Option Addr) (rest : List SV) (T : TypeId) (xs : List (EV × Int)) (f : FuncId) (i0 n i : Int) : (run Try.prog qTE1 false [] K (retP Try.prog Try.f140.results.toList N) 900 (frm [J] (bodyOf Try.f140) [1, 1, 0, 0, 0] []) ⟨mkT u 48 0 [(0, (.iface 212 (.ptr 0 b 0))), (1, .int .i64 i0), (2, .int .i64 n), (7, .int .i64 i)], qhG 214 6 encItE ((⟨0, 0, 0, ByteArray.empty, ByteArray.empty⟩ : EV), (0 : Int)) b ao cap f rest T xs⟩) = (
match decide (IntKind.wrap IntKind.i64 (IntKind.wrap IntKind.i64 ((2 : Int) * i) + (1 : Int)) ≥ n) with
| true =>
 N
  [Ent.mk (Loc.blk b) (SObj.cells (SV.vec 1 ao (List.length xs) cap :: SV.func (Fn.func f) [] [] :: rest) T),
   Ent.mk (Loc.sl ao cap) (SObj.vecL (214 : TypeId) 6 encItE xs (EV.mk (0 : Int) (0 : Int) (0 : Int) ByteArray.empty ByteArray.empty, (0 : Int)))]
  (SV.bool (decide (i > i0)))
| false =>
 match decide (IntKind.wrap IntKind.i64 (IntKind.wrap IntKind.i64 ((2 : Int) * i) + (1 : Int)) < (0 : Int)) with
 | true =>
  N
   [Ent.mk (Loc.blk b) (SObj.cells (SV.vec 1 ao (List.length xs) cap :: SV.func (Fn.func f) [] [] :: rest) T),
    Ent.mk (Loc.sl ao cap) (SObj.vecL (214 : TypeId) 6 encItE xs (EV.mk (0 : Int) (0 : Int) (0 : Int) ByteArray.empty ByteArray.empty, (0 : Int)))]
   (SV.bool (decide (i > i0)))
 | false =>
  match decide (IntKind.wrap IntKind.i64 (IntKind.wrap IntKind.i64 (IntKind.wrap IntKind.i64 ((2 : Int) * i) + (1 : Int)) + (1 : Int)) < n) with
  | true =>
   true = true ∧
    ∃ (xs_1 : List (EV × Int)),
     (Ent.mk (Loc.sl ao cap) (SObj.vecL (214 : TypeId) 6 encItE xs (EV.mk (0 : Int) (0 : Int) (0 : Int) ByteArray.empty ByteArray.empty, (0 : Int))) =
      Ent.mk (Loc.sl ao cap) (SObj.vecL (214 : TypeId) 6 encItE xs_1 (EV.mk (0 : Int) (0 : Int) (0 : Int) ByteArray.empty ByteArray.empty, (0 : Int))) ∧
      b = b ∧ List.length xs = List.length xs_1 ∧ false = false) ∧
      (IntKind.i64 = IntKind.i64 ∧
       IntKind.i64 = IntKind.i64 ∧
        (0 : Int) ≤ IntKind.wrap IntKind.i64 (IntKind.wrap IntKind.i64 (IntKind.wrap IntKind.i64 ((2 : Int) * i) + (1 : Int)) + (1 : Int)) ∧
         IntKind.wrap IntKind.i64 (IntKind.wrap IntKind.i64 (IntKind.wrap IntKind.i64 ((2 : Int) * i) + (1 : Int)) + (1 : Int)) < (↑(List.length xs_1) : Int) ∧
          (0 : Int) ≤ IntKind.wrap IntKind.i64 (IntKind.wrap IntKind.i64 ((2 : Int) * i) + (1 : Int)) ∧
           IntKind.wrap IntKind.i64 (IntKind.wrap IntKind.i64 ((2 : Int) * i) + (1 : Int)) < (↑(List.length xs_1) : Int)) ∧
       ∃ (bef : EV → EV → Bool),
        RE f bef ∧
         match
          lessI bef
           (List.getD xs_1 (Int.toNat (IntKind.wrap IntKind.i64 (IntKind.wrap IntKind.i64 (IntKind.wrap IntKind.i64 ((2 : Int) * i) + (1 : Int)) + (1 : Int))))
            (EV.mk (0 : Int) (0 : Int) (0 : Int) ByteArray.empty ByteArray.empty, (0 : Int)))
           (List.getD xs_1 (Int.toNat (IntKind.wrap IntKind.i64 (IntKind.wrap IntKind.i64 ((2 : Int) * i) + (1 : Int))))
            (EV.mk (0 : Int) (0 : Int) (0 : Int) ByteArray.empty ByteArray.empty, (0 : Int))) with
         | true =>
          true = true ∧
           ∃ (xs_2 : List (EV × Int)),
            (Ent.mk (Loc.sl ao cap) (SObj.vecL (214 : TypeId) 6 encItE xs (EV.mk (0 : Int) (0 : Int) (0 : Int) ByteArray.empty ByteArray.empty, (0 : Int))) =
             Ent.mk (Loc.sl ao cap) (SObj.vecL (214 : TypeId) 6 encItE xs_2 (EV.mk (0 : Int) (0 : Int) (0 : Int) ByteArray.empty ByteArray.empty, (0 : Int))) ∧
             b = b ∧ List.length xs = List.length xs_2 ∧ false = false) ∧
             (IntKind.i64 = IntKind.i64 ∧
              IntKind.i64 = IntKind.i64 ∧
               (0 : Int) ≤ IntKind.wrap IntKind.i64 (IntKind.wrap IntKind.i64 (IntKind.wrap IntKind.i64 ((2 : Int) * i) + (1 : Int)) + (1 : Int)) ∧
                IntKind.wrap IntKind.i64 (IntKind.wrap IntKind.i64 (IntKind.wrap IntKind.i64 ((2 : Int) * i) + (1 : Int)) + (1 : Int)) < (↑(List.length xs_2) : Int) ∧
                 (0 : Int) ≤ i ∧ i < (↑(List.length xs_2) : Int)) ∧
              ∃ (bef_1 : EV → EV → Bool),
               RE f bef_1 ∧
                match
                 !lessI bef_1
                  (List.getD xs_2 (Int.toNat (IntKind.wrap IntKind.i64 (IntKind.wrap IntKind.i64 (IntKind.wrap IntKind.i64 ((2 : Int) * i) + (1 : Int)) + (1 : Int))))
                   (EV.mk (0 : Int) (0 : Int) (0 : Int) ByteArray.empty ByteArray.empty, (0 : Int)))
                  (List.getD xs_2 (Int.toNat i) (EV.mk (0 : Int) (0 : Int) (0 : Int) ByteArray.empty ByteArray.empty, (0 : Int))) with
                | true =>
                 N
                  [Ent.mk (Loc.blk b) (SObj.cells (SV.vec 1 ao (List.length xs) cap :: SV.func (Fn.func f) [] [] :: rest) T),
                   Ent.mk (Loc.sl ao cap) (SObj.vecL (214 : TypeId) 6 encItE xs (EV.mk (0 : Int) (0 : Int) (0 : Int) ByteArray.empty ByteArray.empty, (0 : Int)))]
                  (SV.bool (decide (i > i0)))
                | false =>
                 true = true ∧
                  ∃ (xs_3 : List (EV × Int)),
                   (Ent.mk (Loc.sl ao cap) (SObj.vecL (214 : TypeId) 6 encItE xs (EV.mk (0 : Int) (0 : Int) (0 : Int) ByteArray.empty ByteArray.empty, (0 : Int))) =
                    Ent.mk (Loc.sl ao cap) (SObj.vecL (214 : TypeId) 6 encItE xs_3 (EV.mk (0 : Int) (0 : Int) (0 : Int) ByteArray.empty ByteArray.empty, (0 : Int))) ∧
                    b = b ∧ List.length xs = List.length xs_3 ∧ false = false) ∧
                    (IntKind.i64 = IntKind.i64 ∧
                     IntKind.i64 = IntKind.i64 ∧
                      (0 : Int) ≤ i ∧
                       i < (↑(List.length xs_3) : Int) ∧
                        (0 : Int) ≤ IntKind.wrap IntKind.i64 (IntKind.wrap IntKind.i64 (IntKind.wrap IntKind.i64 ((2 : Int) * i) + (1 : Int)) + (1 : Int)) ∧
                         IntKind.wrap IntKind.i64 (IntKind.wrap IntKind.i64 (IntKind.wrap IntKind.i64 ((2 : Int) * i) + (1 : Int)) + (1 : Int)) <
                          (↑(List.length xs_3) : Int)) ∧
                     K (Frm.loop J :: Frm.blk 0 :: frm [] (bodyOf Try.f140) [1, 1, 1] [])
                      (Sy.mk (SV.iface (212 : TypeId) (SV.ptr 0 b 0) :: (SV.int IntKind.i64 i0 :: (SV.int IntKind.i64 n :: (rawR u 3 (SV.int IntKind.i64 (IntKind.wrap IntKind.i64 (IntKind.wrap IntKind.i64 (IntKind.wrap IntKind.i64 ((2 : Int) * i) + (1 : Int)) + (1 : Int))) :: (SV.int IntKind.i64 (IntKind.wrap IntKind.i64 (IntKind.wrap IntKind.i64 ((2 : Int) * i) + (1 : Int))) :: (SV.int IntKind.i64 (IntKind.wrap IntKind.i64 (IntKind.wrap IntKind.i64 (IntKind.wrap IntKind.i64 ((2 : Int) * i) + (1 : Int)) + (1 : Int))) :: (SV.int IntKind.i64 (IntKind.wrap IntKind.i64 (IntKind.wrap IntKind.i64 (IntKind.wrap IntKind.i64 ((2 : Int) * i) + (1 : Int)) + (1 : Int))) :: (SV.raw (u 11) :: (SV.int IntKind.i64 i :: (SV.int IntKind.i64 (IntKind.wrap IntKind.i64 ((2 : Int) * i)) :: (SV.int IntKind.i64 (IntKind.wrap IntKind.i64 (IntKind.wrap IntKind.i64 ((2 : Int) * i) + (1 : Int))) :: (SV.int IntKind.i64 (IntKind.wrap IntKind.i64 (IntKind.wrap IntKind.i64 ((2 : Int) * i) + (1 : Int))) :: (SV.int IntKind.i64 n :: (SV.bool (decide (IntKind.wrap IntKind.i64 (IntKind.wrap IntKind.i64 ((2 : Int) * i) + (1 : Int)) ≥ n)) :: (SV.bool false :: (SV.int IntKind.i64 (IntKind.wrap IntKind.i64 (IntKind.wrap IntKind.i64 ((2 : Int) * i) + (1 : Int))) :: (SV.bool (decide (IntKind.wrap IntKind.i64 (IntKind.wrap IntKind.i64 ((2 : Int) * i) + (1 : Int)) < (0 : Int))) :: (SV.bool false :: (SV.int IntKind.i64 (IntKind.wrap IntKind.i64 (IntKind.wrap IntKind.i64 ((2 : Int) * i) + (1 : Int))) :: (SV.int IntKind.i64 (IntKind.wrap IntKind.i64 (IntKind.wrap IntKind.i64 ((2 : Int) * i) + (1 : Int))) :: (SV.int IntKind.i64 (IntKind.wrap IntKind.i64 (IntKind.wrap IntKind.i64 (IntKind.wrap IntKind.i64 ((2 : Int) * i) + (1 : Int)) + (1 : Int))) :: (SV.int IntKind.i64 (IntKind.wrap IntKind.i64 (IntKind.wrap IntKind.i64 (IntKind.wrap IntKind.i64 ((2 : Int) * i) + (1 : Int)) + (1 : Int))) :: (SV.int IntKind.i64 n :: (SV.bool (decide (IntKind.wrap IntKind.i64 (IntKind.wrap IntKind.i64 (IntKind.wrap IntKind.i64 ((2 : Int) * i) + (1 : Int)) + (1 : Int)) < n)) :: (SV.bool true :: (SV.iface (212 : TypeId) (SV.ptr 0 b 0) :: (SV.int IntKind.i64 (IntKind.wrap IntKind.i64 (IntKind.wrap IntKind.i64 (IntKind.wrap IntKind.i64 ((2 : Int) * i) + (1 : Int)) + (1 : Int))) :: (SV.int IntKind.i64 (IntKind.wrap IntKind.i64 (IntKind.wrap IntKind.i64 ((2 : Int) * i) + (1 : Int))) :: (SV.bool (lessI bef (List.getD xs_1 (Int.toNat (IntKind.wrap IntKind.i64 (IntKind.wrap IntKind.i64 (IntKind.wrap IntKind.i64 ((2 : Int) * i) + (1 : Int)) + (1 : Int)))) (EV.mk (0 : Int) (0 : Int) (0 : Int) ByteArray.empty ByteArray.empty, (0 : Int))) (List.getD xs_1 (Int.toNat (IntKind.wrap IntKind.i64 (IntKind.wrap IntKind.i64 ((2 : Int) * i) + (1 : Int)))) (EV.mk (0 : Int) (0 : Int) (0 : Int) ByteArray.empty ByteArray.empty, (0 : Int)))) :: (SV.bool true :: (SV.int IntKind.i64 (IntKind.wrap IntKind.i64 (IntKind.wrap IntKind.i64 (IntKind.wrap IntKind.i64 ((2 : Int) * i) + (1 : Int)) + (1 : Int))) :: (SV.iface (212 : TypeId) (SV.ptr 0 b 0) :: (SV.int IntKind.i64 (IntKind.wrap IntKind.i64 (IntKind.wrap IntKind.i64 (IntKind.wrap IntKind.i64 ((2 : Int) * i) + (1 : Int)) + (1 : Int))) :: (SV.int IntKind.i64 i :: (SV.bool (lessI bef_1 (List.getD xs_2 (Int.toNat (IntKind.wrap IntKind.i64 (IntKind.wrap IntKind.i64 (IntKind.wrap IntKind.i64 ((2 : Int) * i) + (1 : Int)) + (1 : Int)))) (EV.mk (0 : Int) (0 : Int) (0 : Int) ByteArray.empty ByteArray.empty, (0 : Int))) (List.getD xs_2 (Int.toNat i) (EV.mk (0 : Int) (0 : Int) (0 : Int) ByteArray.empty ByteArray.empty, (0 : Int)))) :: (SV.bool false :: (SV.iface (212 : TypeId) (SV.ptr 0 b 0) :: (SV.int IntKind.i64 i :: (SV.int IntKind.i64 (IntKind.wrap IntKind.i64 (IntKind.wrap IntKind.i64 (IntKind.wrap IntKind.i64 ((2 : Int) * i) + (1 : Int)) + (1 : Int))) :: (SV.tuple [] :: (SV.int IntKind.i64 (IntKind.wrap IntKind.i64 (IntKind.wrap IntKind.i64 (IntKind.wrap IntKind.i64 ((2 : Int) * i) + (1 : Int)) + (1 : Int))) :: (rawR u 45 [] 3))))))))))))))))))))))))))))))))))))))) 4))))
                       [Ent.mk (Loc.blk b)
                        (SObj.cells
                         (SV.vec 1 ao
                          (List.length
                           (swapL (EV.mk (0 : Int) (0 : Int) (0 : Int) ByteArray.empty ByteArray.empty, (0 : Int)) xs_3 (Int.toNat i)
                            (Int.toNat (IntKind.wrap IntKind.i64 (IntKind.wrap IntKind.i64 (IntKind.wrap IntKind.i64 ((2 : Int) * i) + (1 : Int)) + (1 : Int))))))
                          cap ::
                          SV.func (Fn.func f) [] [] :: rest)
                         T),
                        Ent.mk (Loc.sl ao cap)
                         (SObj.vecL (214 : TypeId) 6 encItE
                          (swapL (EV.mk (0 : Int) (0 : Int) (0 : Int) ByteArray.empty ByteArray.empty, (0 : Int)) xs_3 (Int.toNat i)
                           (Int.toNat (IntKind.wrap IntKind.i64 (IntKind.wrap IntKind.i64 (IntKind.wrap IntKind.i64 ((2 : Int) * i) + (1 : Int)) + (1 : Int)))))
                          (EV.mk (0 : Int) (0 : Int) (0 : Int) ByteArray.empty ByteArray.empty, (0 : Int)))])
         | false =>
          true = true ∧
           ∃ (xs_2 : List (EV × Int)),
            (Ent.mk (Loc.sl ao cap) (SObj.vecL (214 : TypeId) 6 encItE xs (EV.mk (0 : Int) (0 : Int) (0 : Int) ByteArray.empty ByteArray.empty, (0 : Int))) =
             Ent.mk (Loc.sl ao cap) (SObj.vecL (214 : TypeId) 6 encItE xs_2 (EV.mk (0 : Int) (0 : Int) (0 : Int) ByteArray.empty ByteArray.empty, (0 : Int))) ∧
             b = b ∧ List.length xs = List.length xs_2 ∧ false = false) ∧
             (IntKind.i64 = IntKind.i64 ∧
              IntKind.i64 = IntKind.i64 ∧
               (0 : Int) ≤ IntKind.wrap IntKind.i64 (IntKind.wrap IntKind.i64 ((2 : Int) * i) + (1 : Int)) ∧
                IntKind.wrap IntKind.i64 (IntKind.wrap IntKind.i64 ((2 : Int) * i) + (1 : Int)) < (↑(List.length xs_2) : Int) ∧ (0 : Int) ≤ i ∧ i < (↑(List.length xs_2) : Int)) ∧
              ∃ (bef_1 : EV → EV → Bool),
               RE f bef_1 ∧
                match
                 !lessI bef_1
                  (List.getD xs_2 (Int.toNat (IntKind.wrap IntKind.i64 (IntKind.wrap IntKind.i64 ((2 : Int) * i) + (1 : Int))))
                   (EV.mk (0 : Int) (0 : Int) (0 : Int) ByteArray.empty ByteArray.empty, (0 : Int)))
                  (List.getD xs_2 (Int.toNat i) (EV.mk (0 : Int) (0 : Int) (0 : Int) ByteArray.empty ByteArray.empty, (0 : Int))) with
                | true =>
                 N
                  [Ent.mk (Loc.blk b) (SObj.cells (SV.vec 1 ao (List.length xs) cap :: SV.func (Fn.func f) [] [] :: rest) T),
                   Ent.mk (Loc.sl ao cap) (SObj.vecL (214 : TypeId) 6 encItE xs (EV.mk (0 : Int) (0 : Int) (0 : Int) ByteArray.empty ByteArray.empty, (0 : Int)))]
                  (SV.bool (decide (i > i0)))
                | false =>
                 true = true ∧
                  ∃ (xs_3 : List (EV × Int)),
                   (Ent.mk (Loc.sl ao cap) (SObj.vecL (214 : TypeId) 6 encItE xs (EV.mk (0 : Int) (0 : Int) (0 : Int) ByteArray.empty ByteArray.empty, (0 : Int))) =
                    Ent.mk (Loc.sl ao cap) (SObj.vecL (214 : TypeId) 6 encItE xs_3 (EV.mk (0 : Int) (0 : Int) (0 : Int) ByteArray.empty ByteArray.empty, (0 : Int))) ∧
                    b = b ∧ List.length xs = List.length xs_3 ∧ false = false) ∧
                    (IntKind.i64 = IntKind.i64 ∧
                     IntKind.i64 = IntKind.i64 ∧
                      (0 : Int) ≤ i ∧
                       i < (↑(List.length xs_3) : Int) ∧
                        (0 : Int) ≤ IntKind.wrap IntKind.i64 (IntKind.wrap IntKind.i64 ((2 : Int) * i) + (1 : Int)) ∧
                         IntKind.wrap IntKind.i64 (IntKind.wrap IntKind.i64 ((2 : Int) * i) + (1 : Int)) < (↑(List.length xs_3) : Int)) ∧
                     K (Frm.loop J :: Frm.blk 0 :: frm [] (bodyOf Try.f140) [1, 1, 1] [])
                      (Sy.mk (SV.iface (212 : TypeId) (SV.ptr 0 b 0) :: (SV.int IntKind.i64 i0 :: (SV.int IntKind.i64 n :: (rawR u 3 (SV.int IntKind.i64 (IntKind.wrap IntKind.i64 (IntKind.wrap IntKind.i64 ((2 : Int) * i) + (1 : Int))) :: (SV.int IntKind.i64 (IntKind.wrap IntKind.i64 (IntKind.wrap IntKind.i64 ((2 : Int) * i) + (1 : Int))) :: (SV.int IntKind.i64 (IntKind.wrap IntKind.i64 (IntKind.wrap IntKind.i64 ((2 : Int) * i) + (1 : Int))) :: (SV.int IntKind.i64 (IntKind.wrap IntKind.i64 (IntKind.wrap IntKind.i64 (IntKind.wrap IntKind.i64 ((2 : Int) * i) + (1 : Int)) + (1 : Int))) :: (SV.raw (u 11) :: (SV.int IntKind.i64 i :: (SV.int IntKind.i64 (IntKind.wrap IntKind.i64 ((2 : Int) * i)) :: (SV.int IntKind.i64 (IntKind.wrap IntKind.i64 (IntKind.wrap IntKind.i64 ((2 : Int) * i) + (1 : Int))) :: (SV.int IntKind.i64 (IntKind.wrap IntKind.i64 (IntKind.wrap IntKind.i64 ((2 : Int) * i) + (1 : Int))) :: (SV.int IntKind.i64 n :: (SV.bool (decide (IntKind.wrap IntKind.i64 (IntKind.wrap IntKind.i64 ((2 : Int) * i) + (1 : Int)) ≥ n)) :: (SV.bool false :: (SV.int IntKind.i64 (IntKind.wrap IntKind.i64 (IntKind.wrap IntKind.i64 ((2 : Int) * i) + (1 : Int))) :: (SV.bool (decide (IntKind.wrap IntKind.i64 (IntKind.wrap IntKind.i64 ((2 : Int) * i) + (1 : Int)) < (0 : Int))) :: (SV.bool false :: (SV.int IntKind.i64 (IntKind.wrap IntKind.i64 (IntKind.wrap IntKind.i64 ((2 : Int) * i) + (1 : Int))) :: (SV.int IntKind.i64 (IntKind.wrap IntKind.i64 (IntKind.wrap IntKind.i64 ((2 : Int) * i) + (1 : Int))) :: (SV.int IntKind.i64 (IntKind.wrap IntKind.i64 (IntKind.wrap IntKind.i64 (IntKind.wrap IntKind.i64 ((2 : Int) * i) + (1 : Int)) + (1 : Int))) :: (SV.int IntKind.i64 (IntKind.wrap IntKind.i64 (IntKind.wrap IntKind.i64 (IntKind.wrap IntKind.i64 ((2 : Int) * i) + (1 : Int)) + (1 : Int))) :: (SV.int IntKind.i64 n :: (SV.bool (decide (IntKind.wrap IntKind.i64 (IntKind.wrap IntKind.i64 (IntKind.wrap IntKind.i64 ((2 : Int) * i) + (1 : Int)) + (1 : Int)) < n)) :: (SV.bool true :: (SV.iface (212 : TypeId) (SV.ptr 0 b 0) :: (SV.int IntKind.i64 (IntKind.wrap IntKind.i64 (IntKind.wrap IntKind.i64 (IntKind.wrap IntKind.i64 ((2 : Int) * i) + (1 : Int)) + (1 : Int))) :: (SV.int IntKind.i64 (IntKind.wrap IntKind.i64 (IntKind.wrap IntKind.i64 ((2 : Int) * i) + (1 : Int))) :: (SV.bool (lessI bef (List.getD xs_1 (Int.toNat (IntKind.wrap IntKind.i64 (IntKind.wrap IntKind.i64 (IntKind.wrap IntKind.i64 ((2 : Int) * i) + (1 : Int)) + (1 : Int)))) (EV.mk (0 : Int) (0 : Int) (0 : Int) ByteArray.empty ByteArray.empty, (0 : Int))) (List.getD xs_1 (Int.toNat (IntKind.wrap IntKind.i64 (IntKind.wrap IntKind.i64 ((2 : Int) * i) + (1 : Int)))) (EV.mk (0 : Int) (0 : Int) (0 : Int) ByteArray.empty ByteArray.empty, (0 : Int)))) :: (SV.bool false :: (SV.raw (u 34) :: (SV.iface (212 : TypeId) (SV.ptr 0 b 0) :: (SV.int IntKind.i64 (IntKind.wrap IntKind.i64 (IntKind.wrap IntKind.i64 ((2 : Int) * i) + (1 : Int))) :: (SV.int IntKind.i64 i :: (SV.bool (lessI bef_1 (List.getD xs_2 (Int.toNat (IntKind.wrap IntKind.i64 (IntKind.wrap IntKind.i64 ((2 : Int) * i) + (1 : Int)))) (EV.mk (0 : Int) (0 : Int) (0 : Int) ByteArray.empty ByteArray.empty, (0 : Int))) (List.getD xs_2 (Int.toNat i) (EV.mk (0 : Int) (0 : Int) (0 : Int) ByteArray.empty ByteArray.empty, (0 : Int)))) :: (SV.bool false :: (SV.iface (212 : TypeId) (SV.ptr 0 b 0) :: (SV.int IntKind.i64 i :: (SV.int IntKind.i64 (IntKind.wrap IntKind.i64 (IntKind.wrap IntKind.i64 ((2 : Int) * i) + (1 : Int))) :: (SV.tuple [] :: (SV.int IntKind.i64 (IntKind.wrap IntKind.i64 (IntKind.wrap IntKind.i64 ((2 : Int) * i) + (1 : Int))) :: (rawR u 45 [] 3))))))))))))))))))))))))))))))))))))))) 4))))
                       [Ent.mk (Loc.blk b)
                        (SObj.cells
                         (SV.vec 1 ao
                          (List.length
                           (swapL (EV.mk (0 : Int) (0 : Int) (0 : Int) ByteArray.empty ByteArray.empty, (0 : Int)) xs_3 (Int.toNat i)
                            (Int.toNat (IntKind.wrap IntKind.i64 (IntKind.wrap IntKind.i64 ((2 : Int) * i) + (1 : Int))))))
                          cap ::
                          SV.func (Fn.func f) [] [] :: rest)
                         T),
                        Ent.mk (Loc.sl ao cap)
                         (SObj.vecL (214 : TypeId) 6 encItE
                          (swapL (EV.mk (0 : Int) (0 : Int) (0 : Int) ByteArray.empty ByteArray.empty, (0 : Int)) xs_3 (Int.toNat i)
                           (Int.toNat (IntKind.wrap IntKind.i64 (IntKind.wrap IntKind.i64 ((2 : Int) * i) + (1 : Int)))))
                          (EV.mk (0 : Int) (0 : Int) (0 : Int) ByteArray.empty ByteArray.empty, (0 : Int)))])
  | false =>
   true = true ∧
    ∃ (xs_1 : List (EV × Int)),
     (Ent.mk (Loc.sl ao cap) (SObj.vecL (214 : TypeId) 6 encItE xs (EV.mk (0 : Int) (0 : Int) (0 : Int) ByteArray.empty ByteArray.empty, (0 : Int))) =
      Ent.mk (Loc.sl ao cap) (SObj.vecL (214 : TypeId) 6 encItE xs_1 (EV.mk (0 : Int) (0 : Int) (0 : Int) ByteArray.empty ByteArray.empty, (0 : Int))) ∧
      b = b ∧ List.length xs = List.length xs_1 ∧ false = false) ∧
      (IntKind.i64 = IntKind.i64 ∧
       IntKind.i64 = IntKind.i64 ∧
        (0 : Int) ≤ IntKind.wrap IntKind.i64 (IntKind.wrap IntKind.i64 ((2 : Int) * i) + (1 : Int)) ∧
         IntKind.wrap IntKind.i64 (IntKind.wrap IntKind.i64 ((2 : Int) * i) + (1 : Int)) < (↑(List.length xs_1) : Int) ∧ (0 : Int) ≤ i ∧ i < (↑(List.length xs_1) : Int)) ∧
       ∃ (bef : EV → EV → Bool),
        RE f bef ∧
         match
          !lessI bef
           (List.getD xs_1 (Int.toNat (IntKind.wrap IntKind.i64 (IntKind.wrap IntKind.i64 ((2 : Int) * i) + (1 : Int))))
            (EV.mk (0 : Int) (0 : Int) (0 : Int) ByteArray.empty ByteArray.empty, (0 : Int)))
           (List.getD xs_1 (Int.toNat i) (EV.mk (0 : Int) (0 : Int) (0 : Int) ByteArray.empty ByteArray.empty, (0 : Int))) with
         | true =>
          N
           [Ent.mk (Loc.blk b) (SObj.cells (SV.vec 1 ao (List.length xs) cap :: SV.func (Fn.func f) [] [] :: rest) T),
            Ent.mk (Loc.sl ao cap) (SObj.vecL (214 : TypeId) 6 encItE xs (EV.mk (0 : Int) (0 : Int) (0 : Int) ByteArray.empty ByteArray.empty, (0 : Int)))]
           (SV.bool (decide (i > i0)))
         | false =>
          true = true ∧
           ∃ (xs_2 : List (EV × Int)),
            (Ent.mk (Loc.sl ao cap) (SObj.vecL (214 : TypeId) 6 encItE xs (EV.mk (0 : Int) (0 : Int) (0 : Int) ByteArray.empty ByteArray.empty, (0 : Int))) =
             Ent.mk (Loc.sl ao cap) (SObj.vecL (214 : TypeId) 6 encItE xs_2 (EV.mk (0 : Int) (0 : Int) (0 : Int) ByteArray.empty ByteArray.empty, (0 : Int))) ∧
             b = b ∧ List.length xs = List.length xs_2 ∧ false = false) ∧
             (IntKind.i64 = IntKind.i64 ∧
              IntKind.i64 = IntKind.i64 ∧
               (0 : Int) ≤ i ∧
                i < (↑(List.length xs_2) : Int) ∧
                 (0 : Int) ≤ IntKind.wrap IntKind.i64 (IntKind.wrap IntKind.i64 ((2 : Int) * i) + (1 : Int)) ∧
                  IntKind.wrap IntKind.i64 (IntKind.wrap IntKind.i64 ((2 : Int) * i) + (1 : Int)) < (↑(List.length xs_2) : Int)) ∧
              K (Frm.loop J :: Frm.blk 0 :: frm [] (bodyOf Try.f140) [1, 1, 1] [])
               (Sy.mk (SV.iface (212 : TypeId) (SV.ptr 0 b 0) :: (SV.int IntKind.i64 i0 :: (SV.int IntKind.i64 n :: (rawR u 3 (SV.int IntKind.i64 (IntKind.wrap IntKind.i64 (IntKind.wrap IntKind.i64 ((2 : Int) * i) + (1 : Int))) :: (SV.int IntKind.i64 (IntKind.wrap IntKind.i64 (IntKind.wrap IntKind.i64 ((2 : Int) * i) + (1 : Int))) :: (SV.int IntKind.i64 (IntKind.wrap IntKind.i64 (IntKind.wrap IntKind.i64 ((2 : Int) * i) + (1 : Int))) :: (SV.int IntKind.i64 (IntKind.wrap IntKind.i64 (IntKind.wrap IntKind.i64 (IntKind.wrap IntKind.i64 ((2 : Int) * i) + (1 : Int)) + (1 : Int))) :: (SV.raw (u 11) :: (SV.int IntKind.i64 i :: (SV.int IntKind.i64 (IntKind.wrap IntKind.i64 ((2 : Int) * i)) :: (SV.int IntKind.i64 (IntKind.wrap IntKind.i64 (IntKind.wrap IntKind.i64 ((2 : Int) * i) + (1 : Int))) :: (SV.int IntKind.i64 (IntKind.wrap IntKind.i64 (IntKind.wrap IntKind.i64 ((2 : Int) * i) + (1 : Int))) :: (SV.int IntKind.i64 n :: (SV.bool (decide (IntKind.wrap IntKind.i64 (IntKind.wrap IntKind.i64 ((2 : Int) * i) + (1 : Int)) ≥ n)) :: (SV.bool false :: (SV.int IntKind.i64 (IntKind.wrap IntKind.i64 (IntKind.wrap IntKind.i64 ((2 : Int) * i) + (1 : Int))) :: (SV.bool (decide (IntKind.wrap IntKind.i64 (IntKind.wrap IntKind.i64 ((2 : Int) * i) + (1 : Int)) < (0 : Int))) :: (SV.bool false :: (SV.int IntKind.i64 (IntKind.wrap IntKind.i64 (IntKind.wrap IntKind.i64 ((2 : Int) * i) + (1 : Int))) :: (SV.int IntKind.i64 (IntKind.wrap IntKind.i64 (IntKind.wrap IntKind.i64 ((2 : Int) * i) + (1 : Int))) :: (SV.int IntKind.i64 (IntKind.wrap IntKind.i64 (IntKind.wrap IntKind.i64 (IntKind.wrap IntKind.i64 ((2 : Int) * i) + (1 : Int)) + (1 : Int))) :: (SV.int IntKind.i64 (IntKind.wrap IntKind.i64 (IntKind.wrap IntKind.i64 (IntKind.wrap IntKind.i64 ((2 : Int) * i) + (1 : Int)) + (1 : Int))) :: (SV.int IntKind.i64 n :: (SV.bool (decide (IntKind.wrap IntKind.i64 (IntKind.wrap IntKind.i64 (IntKind.wrap IntKind.i64 ((2 : Int) * i) + (1 : Int)) + (1 : Int)) < n)) :: (SV.bool false :: (rawE (SV.bool false :: (SV.raw (u 34) :: (SV.iface (212 : TypeId) (SV.ptr 0 b 0) :: (SV.int IntKind.i64 (IntKind.wrap IntKind.i64 (IntKind.wrap IntKind.i64 ((2 : Int) * i) + (1 : Int))) :: (SV.int IntKind.i64 i :: (SV.bool (lessI bef (List.getD xs_1 (Int.toNat (IntKind.wrap IntKind.i64 (IntKind.wrap IntKind.i64 ((2 : Int) * i) + (1 : Int)))) (EV.mk (0 : Int) (0 : Int) (0 : Int) ByteArray.empty ByteArray.empty, (0 : Int))) (List.getD xs_1 (Int.toNat i) (EV.mk (0 : Int) (0 : Int) (0 : Int) ByteArray.empty ByteArray.empty, (0 : Int)))) :: (SV.bool false :: (SV.iface (212 : TypeId) (SV.ptr 0 b 0) :: (SV.int IntKind.i64 i :: (SV.int IntKind.i64 (IntKind.wrap IntKind.i64 (IntKind.wrap IntKind.i64 ((2 : Int) * i) + (1 : Int))) :: (SV.tuple [] :: (SV.int IntKind.i64 (IntKind.wrap IntKind.i64 (IntKind.wrap IntKind.i64 ((2 : Int) * i) + (1 : Int))) :: (rawR u 45 [] 3))))))))))))) 4))))))))))))))))))))))) 4))))
                [Ent.mk (Loc.blk b)
                 (SObj.cells
                  (SV.vec 1 ao
                   (List.length
                    (swapL (EV.mk (0 : Int) (0 : Int) (0 : Int) ByteArray.empty ByteArray.empty, (0 : Int)) xs_2 (Int.toNat i)
                     (Int.toNat (IntKind.wrap IntKind.i64 (IntKind.wrap IntKind.i64 ((2 : Int) * i) + (1 : Int))))))
                   cap ::
                   SV.func (Fn.func f) [] [] :: rest)
                  T),
                 Ent.mk (Loc.sl ao cap)
                  (SObj.vecL (214 : TypeId) 6 encItE
                   (swapL (EV.mk (0 : Int) (0 : Int) (0 : Int) ByteArray.empty ByteArray.empty, (0 : Int)) xs_2 (Int.toNat i)
                    (Int.toNat (IntKind.wrap IntKind.i64 (IntKind.wrap IntKind.i64 ((2 : Int) * i) + (1 : Int)))))
                   (EV.mk (0 : Int) (0 : Int) (0 : Int) ByteArray.empty ByteArray.empty, (0 : Int)))])) := by kernel_rfl


theorem qEhpush (K : List Frm → Sy → Prop) (N : List Ent → SV → Prop) (J : Act → World → Prop) (u : Nat → Value) (b cap : Nat) (ao : Option Addr) (rest : List SV) (T : TypeId) (xs : List (EV × Int)) (f : FuncId) (v : EV × Int) : (run Try.prog qTE2 false [] K (retP Try.prog Try.f114.results.toList N) 900 [.code (bodyOf Try.f114)] ⟨padTo 12 [(.iface 212 (.ptr 0 b 0)), .iface 214 (.agg (encItE v))], qhG 214 6 encItE ((⟨0, 0, 0, ByteArray.empty, ByteArray.empty⟩ : EV), (0 : Int)) b ao cap f rest T xs⟩) = (
true = true ∧
 ∃ (xs_1 : List (EV × Int)),
  (Ent.mk (Loc.sl ao cap) (SObj.vecL (214 : TypeId) 6 encItE xs (EV.mk (0 : Int) (0 : Int) (0 : Int) ByteArray.empty ByteArray.empty, (0 : Int))) =
   Ent.mk (Loc.sl ao cap) (SObj.vecL (214 : TypeId) 6 encItE xs_1 (EV.mk (0 : Int) (0 : Int) (0 : Int) ByteArray.empty ByteArray.empty, (0 : Int))) ∧
   b = b ∧ List.length xs = List.length xs_1 ∧ false = false) ∧
   ∃ (x : EV × Int),
    ((214 : TypeId) = (214 : TypeId) ∧
     [SV.int IntKind.i64 x.1.1, SV.int IntKind.i64 x.1.2, SV.int IntKind.i64 x.1.3, SV.str x.1.4, SV.str x.1.5, SV.int IntKind.i64 x.2] =
      [SV.int IntKind.i64 v.1.1, SV.int IntKind.i64 v.1.2, SV.int IntKind.i64 v.1.3, SV.str v.1.4, SV.str v.1.5, SV.int IntKind.i64 v.2] ∧
      (List.length xs_1 + 1) * 64 ≤ 140737488355328 ∧ List.length xs_1 + 1 ≤ 9223372036854775807) ∧
     ∀ (ao2 : Option Addr) (cap2 : Nat),
      true = true ∧
       b = b ∧
        true = true ∧
         ∃ (xs : List (EV × Int)),
          (Ent.mk (Loc.sl ao2 cap2) (SObj.vecL (214 : TypeId) 6 encItE (xs_1 ++ [x]) (EV.mk (0 : Int) (0 : Int) (0 : Int) ByteArray.empty ByteArray.empty, (0 : Int))) =
           Ent.mk (Loc.sl ao2 cap2) (SObj.vecL (214 : TypeId) 6 encItE xs (EV.mk (0 : Int) (0 : Int) (0 : Int) ByteArray.empty ByteArray.empty, (0 : Int))) ∧
           b = b ∧ List.length (xs_1 ++ [x]) = List.length xs ∧ false = false) ∧
           ((212 : TypeId) = (212 : TypeId) ∧
            IntKind.i64 = IntKind.i64 ∧
             (0 : Int) ≤ IntKind.wrap IntKind.i64 ((↑(List.length (xs_1 ++ [x])) : Int) - (1 : Int)) ∧
              IntKind.wrap IntKind.i64 ((↑(List.length (xs_1 ++ [x])) : Int) - (1 : Int)) < (↑(List.length xs) : Int) ∧ List.length xs ≤ 2305843009213693952) ∧
            ∃ (bef : EV → EV → Bool),
             RE f bef ∧
              N
               [Ent.mk (Loc.blk b)
                (SObj.cells
                 (SV.vec 1 ao2
                  (List.length
                   (upL (lessI bef) (EV.mk (0 : Int) (0 : Int) (0 : Int) ByteArray.empty ByteArray.empty, (0 : Int))
                    (Int.toNat (IntKind.wrap IntKind.i64 ((↑(List.length (xs_1 ++ [x])) : Int) - (1 : Int)))) xs
                    (Int.toNat (IntKind.wrap IntKind.i64 ((↑(List.length (xs_1 ++ [x])) : Int) - (1 : Int))))))
                  cap2 ::
                  SV.func (Fn.func f) [] [] :: rest)
                 T),
                Ent.mk (Loc.sl ao2 cap2)
                 (SObj.vecL (214 : TypeId) 6 encItE
                  (upL (lessI bef) (EV.mk (0 : Int) (0 : Int) (0 : Int) ByteArray.empty ByteArray.empty, (0 : Int))
                   (Int.toNat (IntKind.wrap IntKind.i64 ((↑(List.length (xs_1 ++ [x])) : Int) - (1 : Int)))) xs
                   (Int.toNat (IntKind.wrap IntKind.i64 ((↑(List.length (xs_1 ++ [x])) : Int) - (1 : Int)))))
                  (EV.mk (0 : Int) (0 : Int) (0 : Int) ByteArray.empty ByteArray.empty, (0 : Int)))]
               (SV.tuple [])) := by kernel_rfl


theorem qEhpop (K : List Frm → Sy → Prop) (N : List Ent → SV → Prop) (J : Act → World → Prop) (u : Nat → Value) (b cap : Nat) (ao : Option Addr) (rest : List SV) (T : TypeId) (xs : List (EV × Int)) (f : FuncId) : (run Try.prog qTE2 false [] K (retP Try.prog Try.f115.results.toList N) 900 [.code (bodyOf Try.f115)] ⟨padTo 15 [(.iface 212 (.ptr 0 b 0))], qhG 214 6 encItE ((⟨0, 0, 0, ByteArray.empty, ByteArray.empty⟩ : EV), (0 : Int)) b ao cap f rest T xs⟩) = (
true = true ∧
 b = b ∧
  true = true ∧
   ∃ (xs_1 : List (EV × Int)),
    (Ent.mk (Loc.sl ao cap) (SObj.vecL (214 : TypeId) 6 encItE xs (EV.mk (0 : Int) (0 : Int) (0 : Int) ByteArray.empty ByteArray.empty, (0 : Int))) =
     Ent.mk (Loc.sl ao cap) (SObj.vecL (214 : TypeId) 6 encItE xs_1 (EV.mk (0 : Int) (0 : Int) (0 : Int) ByteArray.empty ByteArray.empty, (0 : Int))) ∧
     b = b ∧ List.length xs = List.length xs_1 ∧ false = false) ∧
     (IntKind.i64 = IntKind.i64 ∧
      IntKind.i64 = IntKind.i64 ∧
       (0 : Int) ≤ (0 : Int) ∧
        (0 : Int) < (↑(List.length xs_1) : Int) ∧
         (0 : Int) ≤ IntKind.wrap IntKind.i64 ((↑(List.length xs) : Int) - (1 : Int)) ∧ IntKind.wrap IntKind.i64 ((↑(List.length xs) : Int) - (1 : Int)) < (↑(List.length xs_1) : Int)) ∧
      true = true ∧
       ∃ (xs_2 : List (EV × Int)),
        (Ent.mk (Loc.sl ao cap)
         (SObj.vecL (214 : TypeId) 6 encItE
          (swapL (EV.mk (0 : Int) (0 : Int) (0 : Int) ByteArray.empty ByteArray.empty, (0 : Int)) xs_1 0
           (Int.toNat (IntKind.wrap IntKind.i64 ((↑(List.length xs) : Int) - (1 : Int)))))
          (EV.mk (0 : Int) (0 : Int) (0 : Int) ByteArray.empty ByteArray.empty, (0 : Int))) =
         Ent.mk (Loc.sl ao cap) (SObj.vecL (214 : TypeId) 6 encItE xs_2 (EV.mk (0 : Int) (0 : Int) (0 : Int) ByteArray.empty ByteArray.empty, (0 : Int))) ∧
         b = b ∧
          List.length
           (swapL (EV.mk (0 : Int) (0 : Int) (0 : Int) ByteArray.empty ByteArray.empty, (0 : Int)) xs_1 0
            (Int.toNat (IntKind.wrap IntKind.i64 ((↑(List.length xs) : Int) - (1 : Int))))) =
           List.length xs_2 ∧
           false = false) ∧
         ((212 : TypeId) = (212 : TypeId) ∧
          IntKind.i64 = IntKind.i64 ∧
           IntKind.i64 = IntKind.i64 ∧
            (0 : Int) ≤ (0 : Int) ∧
             (0 : Int) ≤ (↑(List.length xs_2) : Int) ∧
              (0 : Int) ≤ IntKind.wrap IntKind.i64 ((↑(List.length xs) : Int) - (1 : Int)) ∧
               IntKind.wrap IntKind.i64 ((↑(List.length xs) : Int) - (1 : Int)) ≤ (↑(List.length xs_2) : Int) ∧ List.length xs_2 ≤ 2305843009213693952) ∧
          ∃ (bef : EV → EV → Bool),
           RE f bef ∧
            ∀ (bb : Bool),
             true = true ∧
              ∃ (xs_3 : List (EV × Int)),
               (Ent.mk (Loc.sl ao cap)
                (SObj.vecL (214 : TypeId) 6 encItE
                 (downL (lessI bef) (EV.mk (0 : Int) (0 : Int) (0 : Int) ByteArray.empty ByteArray.empty, (0 : Int)) (List.length xs_2) xs_2 0
                  (Int.toNat (IntKind.wrap IntKind.i64 ((↑(List.length xs) : Int) - (1 : Int)))))
                 (EV.mk (0 : Int) (0 : Int) (0 : Int) ByteArray.empty ByteArray.empty, (0 : Int))) =
                Ent.mk (Loc.sl ao cap) (SObj.vecL (214 : TypeId) 6 encItE xs_3 (EV.mk (0 : Int) (0 : Int) (0 : Int) ByteArray.empty ByteArray.empty, (0 : Int))) ∧
                b = b ∧
                 List.length
                  (downL (lessI bef) (EV.mk (0 : Int) (0 : Int) (0 : Int) ByteArray.empty ByteArray.empty, (0 : Int)) (List.length xs_2) xs_2 0
                   (Int.toNat (IntKind.wrap IntKind.i64 ((↑(List.length xs) : Int) - (1 : Int))))) =
                  List.length xs_3 ∧
                  false = false) ∧
                (0 < List.length xs_3 ∧ List.length xs_3 ≤ 9223372036854775807) ∧
                 N
                  [Ent.mk (Loc.blk b) (SObj.cells (SV.vec 1 ao (List.length (List.take (List.length xs_3 - 1) xs_3)) cap :: SV.func (Fn.func f) [] [] :: rest) T),
                   Ent.mk (Loc.sl ao cap)
                    (SObj.vecL (214 : TypeId) 6 encItE (List.take (List.length xs_3 - 1) xs_3)
                     (EV.mk (0 : Int) (0 : Int) (0 : Int) ByteArray.empty ByteArray.empty, (0 : Int)))]
                  (SV.iface (214 : TypeId)
                   (SV.agg
                    [SV.int IntKind.i64 (List.getD xs_3 (List.length xs_3 - 1) (EV.mk (0 : Int) (0 : Int) (0 : Int) ByteArray.empty ByteArray.empty, (0 : Int))).1.1,
                     SV.int IntKind.i64 (List.getD xs_3 (List.length xs_3 - 1) (EV.mk (0 : Int) (0 : Int) (0 : Int) ByteArray.empty ByteArray.empty, (0 : Int))).1.2,
                     SV.int IntKind.i64 (List.getD xs_3 (List.length xs_3 - 1) (EV.mk (0 : Int) (0 : Int) (0 : Int) ByteArray.empty ByteArray.empty, (0 : Int))).1.3,
                     SV.str (List.getD xs_3 (List.length xs_3 - 1) (EV.mk (0 : Int) (0 : Int) (0 : Int) ByteArray.empty ByteArray.empty, (0 : Int))).1.4,
                     SV.str (List.getD xs_3 (List.length xs_3 - 1) (EV.mk (0 : Int) (0 : Int) (0 : Int) ByteArray.empty ByteArray.empty, (0 : Int))).1.5,
                     SV.int IntKind.i64 (List.getD xs_3 (List.length xs_3 - 1) (EV.mk (0 : Int) (0 : Int) (0 : Int) ByteArray.empty ByteArray.empty, (0 : Int))).2]))) := by kernel_rfl


theorem qEhin_start (K : List Frm → Sy → Prop) (N : List Ent → SV → Prop) (J : Act → World → Prop) (u : Nat → Value) (b cap : Nat) (ao : Option Addr) (rest : List SV) (T : TypeId) (xs : List (EV × Int)) (f : FuncId) : (run Try.prog qTE2 false [] K (retP Try.prog Try.f118.results.toList N) 900 [.code (bodyOf Try.f118)] ⟨padTo 17 [(.iface 212 (.ptr 0 b 0))], qhG 214 6 encItE ((⟨0, 0, 0, ByteArray.empty, ByteArray.empty⟩ : EV), (0 : Int)) b ao cap f rest T xs⟩) = (
true = true ∧
 b = b ∧
  (2 : Int) ≠ (0 : Int) ∧
   K (frm [] (bodyOf Try.f118) [1, 1, 0] [])
    (Sy.mk (SV.iface (212 : TypeId) (SV.ptr 0 b 0) :: (SV.raw (Value.tuple #[]) :: (SV.int IntKind.i64 (↑(List.length xs) : Int) :: (SV.int IntKind.i64 (IntKind.wrap IntKind.i64 (IntKind.wrap IntKind.i64 (Int.tdiv (↑(List.length xs) : Int) (2 : Int)) - (1 : Int))) :: (SV.iface (212 : TypeId) (SV.ptr 0 b 0) :: (SV.int IntKind.i64 (↑(List.length xs) : Int) :: (SV.int IntKind.i64 (↑(List.length xs) : Int) :: (SV.int IntKind.i64 (IntKind.wrap IntKind.i64 (Int.tdiv (↑(List.length xs) : Int) (2 : Int))) :: (SV.int IntKind.i64 (IntKind.wrap IntKind.i64 (IntKind.wrap IntKind.i64 (Int.tdiv (↑(List.length xs) : Int) (2 : Int)) - (1 : Int))) :: (rawE [] 8))))))))))
     [Ent.mk (Loc.blk b) (SObj.cells (SV.vec 1 ao (List.length xs) cap :: SV.func (Fn.func f) [] [] :: rest) T),
      Ent.mk (Loc.sl ao cap) (SObj.vecL (214 : TypeId) 6 encItE xs (EV.mk (0 : Int) (0 : Int) (0 : Int) ByteArray.empty ByteArray.empty, (0 : Int)))])) := by kernel_rfl


theorem qEhin_body (K : List Frm → Sy → Prop) (N : List Ent → SV → Prop) (J : Act → World → Prop) (u : Nat → Value) (b cap : Nat) (ao : Option Addr) (rest : List SV) (T : TypeId) (xs : List (EV × Int)) (f : FuncId) (i : Int) : (run Try.prog qTE2 false [] K (retP Try.prog Try.f118.results.toList N) 900 (frm [J] (bodyOf Try.f118) [1, 1, 0, 0] []) ⟨mkT u 17 0 [(0, (.iface 212 (.ptr 0 b 0))), (2, .int .i64 (xs.length : Int)), (3, .int .i64 i)], qhG 214 6 encItE ((⟨0, 0, 0, ByteArray.empty, ByteArray.empty⟩ : EV), (0 : Int)) b ao cap f rest T xs⟩) = (
match decide (i ≥ (0 : Int)) with
| true =>
 true = true ∧
  ∃ (xs_1 : List (EV × Int)),
   (Ent.mk (Loc.sl ao cap) (SObj.vecL (214 : TypeId) 6 encItE xs (EV.mk (0 : Int) (0 : Int) (0 : Int) ByteArray.empty ByteArray.empty, (0 : Int))) =
    Ent.mk (Loc.sl ao cap) (SObj.vecL (214 : TypeId) 6 encItE xs_1 (EV.mk (0 : Int) (0 : Int) (0 : Int) ByteArray.empty ByteArray.empty, (0 : Int))) ∧
    b = b ∧ List.length xs = List.length xs_1 ∧ false = false) ∧
    ((212 : TypeId) = (212 : TypeId) ∧
     IntKind.i64 = IntKind.i64 ∧
      IntKind.i64 = IntKind.i64 ∧
       (0 : Int) ≤ i ∧
        i ≤ (↑(List.length xs_1) : Int) ∧ (0 : Int) ≤ (↑(List.length xs) : Int) ∧ (↑(List.length xs) : Int) ≤ (↑(List.length xs_1) : Int) ∧ List.length xs_1 ≤ 2305843009213693952) ∧
     ∃ (bef : EV → EV → Bool),
      RE f bef ∧
       ∀ (bb : Bool),
        K [Frm.loop J, Frm.blk 0]
         (Sy.mk (SV.iface (212 : TypeId) (SV.ptr 0 b 0) :: (SV.raw (u 1) :: (SV.int IntKind.i64 (↑(List.length xs) : Int) :: (SV.int IntKind.i64 (IntKind.wrap IntKind.i64 (i - (1 : Int))) :: (rawR u 4 (SV.int IntKind.i64 i :: (SV.bool true :: (SV.int IntKind.i64 i :: (SV.int IntKind.i64 (IntKind.wrap IntKind.i64 (i - (1 : Int))) :: (SV.iface (212 : TypeId) (SV.ptr 0 b 0) :: (SV.int IntKind.i64 i :: (SV.int IntKind.i64 (↑(List.length xs) : Int) :: (SV.bool bb :: [])))))))) 5)))))
          [Ent.mk (Loc.blk b)
           (SObj.cells
            (SV.vec 1 ao
             (List.length
              (downL (lessI bef) (EV.mk (0 : Int) (0 : Int) (0 : Int) ByteArray.empty ByteArray.empty, (0 : Int)) (List.length xs_1) xs_1 (Int.toNat i)
               (Int.toNat (↑(List.length xs) : Int))))
             cap ::
             SV.func (Fn.func f) [] [] :: rest)
            T),
           Ent.mk (Loc.sl ao cap)
            (SObj.vecL (214 : TypeId) 6 encItE
             (downL (lessI bef) (EV.mk (0 : Int) (0 : Int) (0 : Int) ByteArray.empty ByteArray.empty, (0 : Int)) (List.length xs_1) xs_1 (Int.toNat i)
              (Int.toNat (↑(List.length xs) : Int)))
             (EV.mk (0 : Int) (0 : Int) (0 : Int) ByteArray.empty ByteArray.empty, (0 : Int)))])
| false =>
 N
  [Ent.mk (Loc.blk b) (SObj.cells (SV.vec 1 ao (List.length xs) cap :: SV.func (Fn.func f) [] [] :: rest) T),
   Ent.mk (Loc.sl ao cap) (SObj.vecL (214 : TypeId) 6 encItE xs (EV.mk (0 : Int) (0 : Int) (0 : Int) ByteArray.empty ByteArray.empty, (0 : Int)))]
  (SV.tuple [])) := by kernel_rfl
end Go.Proofs.Ytkcmgcoppecfpaa

/- queue.Queue[reveille/api.Event]: container/heap over its piles. -/
namespace Go.Proofs.Ytkcmgcoppecfpaa
open Go Go.RowKit

section
variable {W : World} {F : List Ch} (b cap : Nat) (ao : Option Addr) (rest : List SV) (T : TypeId) (f : FuncId) (bef : EV → EV → Bool) (len : Nat) (R0 : List (EV × Int))

def qEupLive (s : List (EV × Int) × Nat) : List (Nat × SV) := [(0, .iface 212 (.ptr 0 b 0)), (1, .int .i64 (s.2 : Int))]
def qEHeap (s : List (EV × Int) × Nat) : List Ent := qhG 214 6 encItE ((⟨0, 0, 0, ByteArray.empty, ByteArray.empty⟩ : EV), (0 : Int)) b ao cap f rest T s.1
structure QEUp (s : List (EV × Int) × Nat) : Prop where
  lt : s.2 < s.1.length
  len : s.1.length = len
  go : ∃ m, s.2 ≤ m ∧ upL (lessI bef) ((⟨0, 0, 0, ByteArray.empty, ByteArray.empty⟩ : EV), (0 : Int)) m s.1 s.2 = R0

theorem qEup_round (hR : RE f bef) (hlen : len ≤ 2305843009213693952) (s : List (EV × Int) × Nat) (h : QEUp bef len R0 s) (u : Nat → Value) :
    G Try.prog (endQ Try.prog Try.f139 W F fun h' r => h' = qhG 214 6 encItE ((⟨0, 0, 0, ByteArray.empty, ByteArray.empty⟩ : EV), (0 : Int)) b ao cap f rest T R0 ∧ r = .tuple []) W F (frm [Back W F 23 (qEupLive b) (qEHeap b cap ao rest T f) (QEUp bef len R0) (fun s => s.2) s.2] (bodyOf Try.f139) [0, 0] []) ⟨mkT u 23 0 (qEupLive b s), qEHeap b cap ao rest T f s⟩ := by
  obtain ⟨xs, j⟩ := s
  obtain ⟨h1, h2, m, hm, he⟩ := h
  dsimp only at h1 h2 hm he ⊢
  refine G_run (kc := false) (ss := []) qTE1_ok hmQE 900 ?_
  unfold qEupLive qEHeap
  dsimp only
  rw [qEup_body]
  have hw : IntKind.wrap .i64 (Int.tdiv (IntKind.wrap .i64 ((j : Int) - 1)) 2) = (((j - 1) / 2 : Nat) : Int) := by
    rw [IntWalk.i64_in ((j : Int) - 1) (by omega)]
    by_cases j0 : j = 0
    · subst j0; decide
    · rw [Int.tdiv_eq_ediv_of_nonneg (by omega), IntWalk.i64_in _ (by omega)]; omega
  rw [hw]
  refine ⟨by decide, ?_⟩
  split <;> rename_i hh
  · have hj : (j - 1) / 2 = j := by have := beq_iff_eq.1 hh; omega
    exact ⟨by rw [← he, upL_stop (.inl hj)], rfl⟩
  · have hj : (j - 1) / 2 ≠ j := by have := beq_eq_false_iff_ne.1 hh; omega
    refine ⟨rfl, xs, ⟨rfl, rfl, rfl, rfl⟩, ⟨rfl, rfl, by omega, by omega, by omega, by omega⟩, bef, hR, ?_⟩
    split <;> rename_i hl
    · exact ⟨by rw [← he, upL_stop (.inr (by rw [Bool.not_eq_true'] at hl; exact hl))], rfl⟩
    · refine ⟨rfl, xs, ⟨rfl, rfl, rfl, rfl⟩, ⟨rfl, rfl, by omega, by omega, by omega, by omega⟩, ?_⟩
      refine G_back (swapL ((⟨0, 0, 0, ByteArray.empty, ByteArray.empty⟩ : EV), (0 : Int)) xs ((j - 1) / 2) j, (j - 1) / 2) ⟨by rw [length_swapL]; dsimp only; omega, by rw [length_swapL]; exact h2, m - 1, by dsimp only; omega, by rw [← he, upL_go hj (by rw [Bool.not_eq_false'] at hl; exact hl) hm]⟩ (by dsimp only; omega) rfl ⟨rfl, rfl, trivial⟩ (fun w hw => hw)
end

theorem qEup_spec (b cap : Nat) (ao : Option Addr) (rest : List SV) (T : TypeId) (f : FuncId) (bef : EV → EV → Bool) (hR : RE f bef) (xs : List (EV × Int)) (j : Nat) (hj : j < xs.length) (hl : xs.length ≤ 2305843009213693952) :
    Spec Try.prog 139 (qhG 214 6 encItE ((⟨0, 0, 0, ByteArray.empty, ByteArray.empty⟩ : EV), (0 : Int)) b ao cap f rest T xs) [.iface 212 (.ptr 0 b 0), .int .i64 (j : Int)] fun h' r => h' = qhG 214 6 encItE ((⟨0, 0, 0, ByteArray.empty, ByteArray.empty⟩ : EV), (0 : Int)) b ao cap f rest T (upL (lessI bef) ((⟨0, 0, 0, ByteArray.empty, ByteArray.empty⟩ : EV), (0 : Int)) j xs j) ∧ r = .tuple [] := by
  refine Spec.of_G 23 Try.func139 (c := bodyOf Try.f139) (by kernel_rfl) (by kernel_rfl) (Nat.le_of_ble_eq_true rfl) fun W F => ?_
  refine G_run (kc := false) (ss := []) qTE1_ok hmQE 900 ?_
  rw [qEup_start (J := fun _ _ => False) (u := fun _ => undef)]
  exact G_loopAt [] (bodyOf Try.f139) [0] 23 (qEupLive b) (qEHeap b cap ao rest T f) (QEUp bef xs.length (upL (lessI bef) ((⟨0, 0, 0, ByteArray.empty, ByteArray.empty⟩ : EV), (0 : Int)) j xs j)) (fun s => s.2) (xs, j) (by kernel_rfl) (fun J => by kernel_rfl) ⟨hj, rfl, j, Nat.le_refl _, rfl⟩ rfl ⟨rfl, rfl, trivial⟩ (fun w hw => hw) fun s hs u => qEup_round b cap ao rest T f bef xs.length _ hR hl s hs u

theorem qEup_ok : CtrOk Try.prog 139 (upC 214 6 encItE ((⟨0, 0, 0, ByteArray.empty, ByteArray.empty⟩ : EV), (0 : Int)) 212 RE) := by
  intro args hs N h
  unfold upC at h
  split at h
  · rename_i t l b k j
    unfold onPile at h
    split at h
    · rename_i b' l2 ao n' cap f rest T hl
      split at h
      · rename_i e hl2
        obtain ⟨xs, ⟨rfl, rfl, rfl, hne⟩, ⟨rfl, rfl, g1, g2, g3⟩, bef, hR, hN⟩ := h
        obtain ⟨j', rfl⟩ := Int.eq_ofNat_of_zero_le g1
        refine Spec.pile 214 6 encItE ((⟨0, 0, 0, ByteArray.empty, ByteArray.empty⟩ : EV), (0 : Int)) hl hl2 hne (args' := [.iface 212 (.ptr 0 b' 0), .int .i64 (j' : Int)]) (by rfl) (fun _ _ => qEup_spec b' cap ao rest T f bef hR xs j' (by omega) (by omega)) ?_
        rintro h' r ⟨rfl, rfl⟩
        exact ⟨_, ao, cap, rest, _, fun W F w hr => hr, rfl, hN⟩
      · exact h.elim
    · exact h.elim
  · exact h.elim

section
variable {W : World} {F : List Ch} (b cap : Nat) (ao : Option Addr) (rest : List SV) (T : TypeId) (f : FuncId) (bef : EV → EV → Bool) (len n i0 : Nat) (R0 : List (EV × Int))

def qEdnLive (s : List (EV × Int) × Nat) : List (Nat × SV) := [(0, .iface 212 (.ptr 0 b 0)), (1, .int .i64 (i0 : Int)), (2, .int .i64 (n : Int)), (7, .int .i64 (s.2 : Int))]
structure QEDn (s : List (EV × Int) × Nat) : Prop where
  le : s.2 ≤ len
  len : s.1.length = len
  go : ∃ m, n ≤ m + s.2 + 1 ∧ downL (lessI bef) ((⟨0, 0, 0, ByteArray.empty, ByteArray.empty⟩ : EV), (0 : Int)) m s.1 s.2 n = R0

theorem qEdn_round (hR : RE f bef) (hlen : len ≤ 2305843009213693952) (hn : n ≤ len) (s : List (EV × Int) × Nat) (h : QEDn bef len n R0 s) (u : Nat → Value) :
    G Try.prog (endQ Try.prog Try.f140 W F fun h' r => h' = qhG 214 6 encItE ((⟨0, 0, 0, ByteArray.empty, ByteArray.empty⟩ : EV), (0 : Int)) b ao cap f rest T R0 ∧ ∃ bb, r = .bool bb) W F (frm [Back W F 48 (qEdnLive b n i0) (qEHeap b cap ao rest T f) (QEDn bef len n R0) (fun s => len - s.2) (len - s.2)] (bodyOf Try.f140) [1, 1, 0, 0, 0] []) ⟨mkT u 48 0 (qEdnLive b n i0 s), qEHeap b cap ao rest T f s⟩ := by
  obtain ⟨xs, i⟩ := s
  obtain ⟨h1, h2, m, hm, he⟩ := h
  dsimp only at h1 h2 hm he ⊢
  refine G_run (kc := false) (ss := []) qTE1_ok hmQE 900 ?_
  unfold qEdnLive qEHeap
  dsimp only
  rw [qEdn_body]
  have e1 : IntKind.wrap .i64 (2 * (i : Int)) = 2 * (i : Int) := IntWalk.i64_in _ (by omega)
  have e2 : IntKind.wrap .i64 (2 * (i : Int) + 1) = 2 * (i : Int) + 1 := IntWalk.i64_in _ (by omega)
  have e3 : IntKind.wrap .i64 (2 * (i : Int) + 1 + 1) = 2 * (i : Int) + 1 + 1 := IntWalk.i64_in _ (by omega)
  have e4 : Int.toNat (2 * (i : Int) + 1) = 2 * i + 1 := by omega
  have e5 : Int.toNat (2 * (i : Int) + 1 + 1) = 2 * i + 2 := by omega
  rw [e1, e2, e3, e4, e5]
  have go : ∀ kd : Nat, ¬ n ≤ 2 * i + 1 → kidL (lessI bef) ((⟨0, 0, 0, ByteArray.empty, ByteArray.empty⟩ : EV), (0 : Int)) xs i n = kd → (kd = 2 * i + 1 ∨ kd = 2 * i + 2) → kd < n → lessI bef (xs.getD kd ((⟨0, 0, 0, ByteArray.empty, ByteArray.empty⟩ : EV), (0 : Int))) (xs.getD i ((⟨0, 0, 0, ByteArray.empty, ByteArray.empty⟩ : EV), (0 : Int))) = true → QEDn bef len n R0 (swapL ((⟨0, 0, 0, ByteArray.empty, ByteArray.empty⟩ : EV), (0 : Int)) xs i kd, kd) ∧ len - kd < len - i := by
    intro kd q1 q2 q3 q4 q5
    refine ⟨⟨by dsimp only; omega, by rw [length_swapL]; exact h2, m - 1, by dsimp only; omega, ?_⟩, by omega⟩
    dsimp only
    rw [← he, downL_go q1 (by rw [q2]; exact q5) hm, q2]
  split <;> rename_i c1
  · exact ⟨by rw [← he, downL_stop (.inl (by simp at c1; omega))], _, rfl⟩
  · have c1' : ¬ n ≤ 2 * i + 1 := by simp at c1; omega
    split <;> rename_i c2
    · simp at c2; omega
    · split <;> rename_i c3
      · have c3' : 2 * i + 2 < n := by simp at c3; omega
        refine ⟨rfl, xs, ⟨rfl, rfl, rfl, rfl⟩, ⟨rfl, rfl, by omega, by omega, by omega, by omega⟩, bef, hR, ?_⟩
        split <;> rename_i c4
        · have hk := kidL_two (lt := lessI bef) (d := ((⟨0, 0, 0, ByteArray.empty, ByteArray.empty⟩ : EV), (0 : Int))) c3' c4
          refine ⟨rfl, xs, ⟨rfl, rfl, rfl, rfl⟩, ⟨rfl, rfl, by omega, by omega, by omega, by omega⟩, bef, hR, ?_⟩
          split <;> rename_i c5
          · exact ⟨by rw [← he, downL_stop (.inr (by rw [hk]; simpa using c5))], _, rfl⟩
          · refine ⟨rfl, xs, ⟨rfl, rfl, rfl, rfl⟩, ⟨rfl, rfl, by omega, by omega, by omega, by omega⟩, ?_⟩
            obtain ⟨a1, a2⟩ := go _ c1' hk (.inr rfl) (by omega) (by simpa using c5)
            exact G_back (swapL ((⟨0, 0, 0, ByteArray.empty, ByteArray.empty⟩ : EV), (0 : Int)) xs i (2 * i + 2), 2 * i + 2) a1 a2 rfl ⟨rfl, rfl, rfl, congrArg (Value.int .i64) (by dsimp only; omega), trivial⟩ (fun w hw => hw)
        · have hk := kidL_one (lt := lessI bef) (d := ((⟨0, 0, 0, ByteArray.empty, ByteArray.empty⟩ : EV), (0 : Int))) (xs := xs) (i := i) (n := n) fun _ => by simpa using c4
          refine ⟨rfl, xs, ⟨rfl, rfl, rfl, rfl⟩, ⟨rfl, rfl, by omega, by omega, by omega, by omega⟩, bef, hR, ?_⟩
          split <;> rename_i c5
          · exact ⟨by rw [← he, downL_stop (.inr (by rw [hk]; simpa using c5))], _, rfl⟩
          · refine ⟨rfl, xs, ⟨rfl, rfl, rfl, rfl⟩, ⟨rfl, rfl, by omega, by omega, by omega, by omega⟩, ?_⟩
            obtain ⟨a1, a2⟩ := go _ c1' hk (.inl rfl) (by omega) (by simpa using c5)
            exact G_back (swapL ((⟨0, 0, 0, ByteArray.empty, ByteArray.empty⟩ : EV), (0 : Int)) xs i (2 * i + 1), 2 * i + 1) a1 a2 rfl ⟨rfl, rfl, rfl, congrArg (Value.int .i64) (by dsimp only; omega), trivial⟩ (fun w hw => hw)
      · have hk := kidL_one (lt := lessI bef) (d := ((⟨0, 0, 0, ByteArray.empty, ByteArray.empty⟩ : EV), (0 : Int))) (xs := xs) (i := i) (n := n) fun h => by simp at c3; omega
        refine ⟨rfl, xs, ⟨rfl, rfl, rfl, rfl⟩, ⟨rfl, rfl, by omega, by omega, by omega, by omega⟩, bef, hR, ?_⟩
        split <;> rename_i c5
        · exact ⟨by rw [← he, downL_stop (.inr (by rw [hk]; simpa using c5))], _, rfl⟩
        · refine ⟨rfl, xs, ⟨rfl, rfl, rfl, rfl⟩, ⟨rfl, rfl, by omega, by omega, by omega, by omega⟩, ?_⟩
          obtain ⟨a1, a2⟩ := go _ c1' hk (.inl rfl) (by omega) (by simpa using c5)
          exact G_back (swapL ((⟨0, 0, 0, ByteArray.empty, ByteArray.empty⟩ : EV), (0 : Int)) xs i (2 * i + 1), 2 * i + 1) a1 a2 rfl ⟨rfl, rfl, rfl, congrArg (Value.int .i64) (by dsimp only; omega), trivial⟩ (fun w hw => hw)
end

theorem qEdn_spec (b cap : Nat) (ao : Option Addr) (rest : List SV) (T : TypeId) (f : FuncId) (bef : EV → EV → Bool) (hR : RE f bef) (xs : List (EV × Int)) (i0 n : Nat) (hi0 : i0 ≤ xs.length) (hn : n ≤ xs.length) (hl : xs.length ≤ 2305843009213693952) :
    Spec Try.prog 140 (qhG 214 6 encItE ((⟨0, 0, 0, ByteArray.empty, ByteArray.empty⟩ : EV), (0 : Int)) b ao cap f rest T xs) [.iface 212 (.ptr 0 b 0), .int .i64 (i0 : Int), .int .i64 (n : Int)] fun h' r => h' = qhG 214 6 encItE ((⟨0, 0, 0, ByteArray.empty, ByteArray.empty⟩ : EV), (0 : Int)) b ao cap f rest T (downL (lessI bef) ((⟨0, 0, 0, ByteArray.empty, ByteArray.empty⟩ : EV), (0 : Int)) xs.length xs i0 n) ∧ ∃ bb, r = .bool bb := by
  refine Spec.of_G 48 Try.func140 (c := bodyOf Try.f140) (by kernel_rfl) (by kernel_rfl) (Nat.le_of_ble_eq_true rfl) fun W F => ?_
  refine G_run (kc := false) (ss := []) qTE1_ok hmQE 900 ?_
  rw [qEdn_start (J := fun _ _ => False) (u := fun _ => undef)]
  exact G_loopAt [] (bodyOf Try.f140) [1, 1, 0, 0] 48 (qEdnLive b n i0) (qEHeap b cap ao rest T f) (QEDn bef xs.length n (downL (lessI bef) ((⟨0, 0, 0, ByteArray.empty, ByteArray.empty⟩ : EV), (0 : Int)) xs.length xs i0 n)) (fun s => xs.length - s.2) (xs, i0) (by kernel_rfl) (fun J => by kernel_rfl) ⟨hi0, rfl, xs.length, by dsimp only; omega, rfl⟩ rfl ⟨rfl, rfl, rfl, rfl, trivial⟩ (fun w hw => hw) fun s hs u => qEdn_round b cap ao rest T f bef xs.length n i0 _ hR hl hn s hs u

theorem qEdn_ok : CtrOk Try.prog 140 (downAC 214 6 encItE ((⟨0, 0, 0, ByteArray.empty, ByteArray.empty⟩ : EV), (0 : Int)) 212 RE) := by
  intro args hs N h
  unfold downAC at h
  split at h
  · rename_i t l b k i k' n
    unfold onPile at h
    split at h
    · rename_i b' l2 ao n' cap f rest T hl
      split at h
      · rename_i e hl2
        obtain ⟨xs, ⟨rfl, rfl, rfl, hne⟩, ⟨rfl, rfl, rfl, g0, g00, g1, g2, g3⟩, bef, hR, hN⟩ := h
        obtain ⟨j', rfl⟩ := Int.eq_ofNat_of_zero_le g1
        obtain ⟨i', rfl⟩ := Int.eq_ofNat_of_zero_le g0
        refine Spec.pile 214 6 encItE ((⟨0, 0, 0, ByteArray.empty, ByteArray.empty⟩ : EV), (0 : Int)) hl hl2 hne (args' := [.iface 212 (.ptr 0 b' 0), .int .i64 (i' : Int), .int .i64 (j' : Int)]) (by rfl) (fun _ _ => qEdn_spec b' cap ao rest T f bef hR xs i' j' (by omega) (by omega) (by omega)) ?_
        rintro h' r ⟨rfl, bb, rfl⟩
        exact ⟨_, ao, cap, rest, _, fun W F w hr => hr, rfl, hN bb⟩
      · exact h.elim
    · exact h.elim
  · exact h.elim

theorem qTE2_ok : AllOk Try.prog qTE2 := ⟨qEup_ok, qEdn_ok, qTE1_ok⟩

theorem qEhpush_ok : CtrOk Try.prog 114 (hpushC 214 6 encItE ((⟨0, 0, 0, ByteArray.empty, ByteArray.empty⟩ : EV), (0 : Int)) 212 64 RE) := by
  intro args hs N h
  unfold hpushC at h
  split at h
  · rename_i t l b t' cs
    unfold onPile at h
    split at h
    · rename_i b' l2 ao n' cap f rest T hl
      split at h
      · rename_i e hl2
        obtain ⟨xs, ⟨rfl, rfl, rfl, hne⟩, x, ⟨rfl, rfl, rfl, g1, g2⟩, bef, hR, hN⟩ := h
        refine Spec.pile 214 6 encItE ((⟨0, 0, 0, ByteArray.empty, ByteArray.empty⟩ : EV), (0 : Int)) hl hl2 hne (args' := [.iface 212 (.ptr 0 b' 0), .iface 214 (.agg (encItE x))]) (Post' := fun h' r => ∃ ao2 cap2, h' = qhG 214 6 encItE ((⟨0, 0, 0, ByteArray.empty, ByteArray.empty⟩ : EV), (0 : Int)) b' ao2 cap2 f rest T (pushL (lessI bef) ((⟨0, 0, 0, ByteArray.empty, ByteArray.empty⟩ : EV), (0 : Int)) xs x) ∧ r = .tuple []) (by rfl) (fun _ _ => ?_) ?_
        · refine Spec.of_G 12 Try.func114 (c := bodyOf Try.f114) (by kernel_rfl) (by kernel_rfl) (Nat.le_of_ble_eq_true rfl) fun W F => ?_
          refine G_run (kc := false) (ss := []) qTE2_ok hmQE 900 ?_
          rw [qEhpush (J := fun _ _ => False) (u := fun _ => undef)]
          have hlx : (xs ++ [x]).length = xs.length + 1 := by simp
          have hw : IntKind.wrap .i64 (((xs ++ [x]).length : Int) - 1) = (xs.length : Int) := by rw [hlx, IntWalk.i64_in _ (by omega)]; omega
          refine ⟨rfl, xs, ⟨rfl, rfl, rfl, rfl⟩, x, ⟨rfl, rfl, g1, by omega⟩, fun ao2 cap2 => ⟨rfl, rfl, rfl, xs ++ [x], ⟨rfl, rfl, rfl, rfl⟩, ?_⟩⟩
          rw [hw]
          exact ⟨⟨rfl, rfl, by omega, by omega, by omega⟩, bef, hR, ao2, cap2, rfl, rfl⟩
        · rintro h' r ⟨ao2, cap2, rfl, rfl⟩
          exact ⟨_, ao2, cap2, rest, _, fun W F w hr => hr, rfl, hN ao2 cap2⟩
      · exact h.elim
    · exact h.elim
  · exact h.elim

theorem qEhpop_ok : CtrOk Try.prog 115 (hpopC 214 6 encItE ((⟨0, 0, 0, ByteArray.empty, ByteArray.empty⟩ : EV), (0 : Int)) 212 RE) := by
  intro args hs N h
  unfold hpopC at h
  split at h
  · rename_i t l b
    unfold onPile at h
    split at h
    · rename_i b' l2 ao n' cap f rest T hl
      split at h
      · rename_i e hl2
        obtain ⟨xs, ⟨rfl, rfl, rfl, hne⟩, ⟨rfl, g1, g2⟩, bef, hR, hN⟩ := h
        refine Spec.pile 214 6 encItE ((⟨0, 0, 0, ByteArray.empty, ByteArray.empty⟩ : EV), (0 : Int)) hl hl2 hne (args' := [.iface 212 (.ptr 0 b' 0)]) (Post' := fun h' r => h' = qhG 214 6 encItE ((⟨0, 0, 0, ByteArray.empty, ByteArray.empty⟩ : EV), (0 : Int)) b' ao cap f rest T (popL (lessI bef) ((⟨0, 0, 0, ByteArray.empty, ByteArray.empty⟩ : EV), (0 : Int)) xs) ∧ r = .iface 214 (.agg (encItE (xs.getD 0 ((⟨0, 0, 0, ByteArray.empty, ByteArray.empty⟩ : EV), (0 : Int)))))) (by rfl) (fun _ _ => ?_) ?_
        · refine Spec.of_G 15 Try.func115 (c := bodyOf Try.f115) (by kernel_rfl) (by kernel_rfl) (Nat.le_of_ble_eq_true rfl) fun W F => ?_
          refine G_run (kc := false) (ss := []) qTE2_ok hmQE 900 ?_
          rw [qEhpop (J := fun _ _ => False) (u := fun _ => undef)]
          have hw : IntKind.wrap .i64 ((xs.length : Int) - 1) = ((xs.length - 1 : Nat) : Int) := by rw [IntWalk.i64_in _ (by omega)]; omega
          have hs1 : (swapL ((⟨0, 0, 0, ByteArray.empty, ByteArray.empty⟩ : EV), (0 : Int)) xs 0 (xs.length - 1)).length = xs.length := length_swapL _ _ _
          have hd1 : (downL (lessI bef) ((⟨0, 0, 0, ByteArray.empty, ByteArray.empty⟩ : EV), (0 : Int)) xs.length (swapL ((⟨0, 0, 0, ByteArray.empty, ByteArray.empty⟩ : EV), (0 : Int)) xs 0 (xs.length - 1)) 0 (xs.length - 1)).length = xs.length := by rw [length_downL, hs1]
          have hlast := last_downL (lt := lessI bef) (d := ((⟨0, 0, 0, ByteArray.empty, ByteArray.empty⟩ : EV), (0 : Int))) g1
          rw [hw]
          refine ⟨rfl, rfl, rfl, xs, ⟨rfl, rfl, rfl, rfl⟩, ⟨rfl, rfl, by omega, by omega, by omega, by omega⟩, rfl, swapL ((⟨0, 0, 0, ByteArray.empty, ByteArray.empty⟩ : EV), (0 : Int)) xs 0 (xs.length - 1), ⟨rfl, rfl, rfl, rfl⟩, ⟨rfl, rfl, rfl, by omega, by omega, by omega, by omega, by omega⟩, bef, hR, fun bb => ⟨rfl, downL (lessI bef) ((⟨0, 0, 0, ByteArray.empty, ByteArray.empty⟩ : EV), (0 : Int)) xs.length (swapL ((⟨0, 0, 0, ByteArray.empty, ByteArray.empty⟩ : EV), (0 : Int)) xs 0 (xs.length - 1)) 0 (xs.length - 1), ⟨by simp only [hs1, Int.toNat_natCast], rfl, by simp only [hs1, Int.toNat_natCast], rfl⟩, ⟨by omega, by omega⟩, ?_⟩⟩
          rw [hd1, hlast]
          exact ⟨rfl, rfl⟩
        · rintro h' r ⟨rfl, rfl⟩
          exact ⟨_, ao, cap, rest, _, fun W F w hr => hr, rfl, hN⟩
      · exact h.elim
    · exact h.elim
  · exact h.elim

section
variable {W : World} {F : List Ch} (b cap : Nat) (ao : Option Addr) (rest : List SV) (T : TypeId) (f : FuncId) (bef : EV → EV → Bool) (len : Nat) (R0 : List (EV × Int))
def qEinLive (s : List (EV × Int) × Nat) : List (Nat × SV) := [(0, .iface 212 (.ptr 0 b 0)), (2, .int .i64 (len : Int)), (3, .int .i64 ((s.2 : Int) - 1))]
structure QEIn (s : List (EV × Int) × Nat) : Prop where
  le : s.2 ≤ len
  len : s.1.length = len
  go : initL (lessI bef) ((⟨0, 0, 0, ByteArray.empty, ByteArray.empty⟩ : EV), (0 : Int)) s.2 s.1 = R0
theorem qEin_round (hR : RE f bef) (hlen : len ≤ 1000000000) (s : List (EV × Int) × Nat) (h : QEIn bef len R0 s) (u : Nat → Value) :
    G Try.prog (endQ Try.prog Try.f118 W F fun h' r => h' = qhG 214 6 encItE ((⟨0, 0, 0, ByteArray.empty, ByteArray.empty⟩ : EV), (0 : Int)) b ao cap f rest T R0 ∧ r = .tuple []) W F (frm [Back W F 17 (qEinLive b len) (qEHeap b cap ao rest T f) (QEIn bef len R0) (fun s => s.2) s.2] (bodyOf Try.f118) [1, 1, 0, 0] []) ⟨mkT u 17 0 (qEinLive b len s), qEHeap b cap ao rest T f s⟩ := by
  obtain ⟨xs, i⟩ := s
  obtain ⟨h1, h2, he⟩ := h
  dsimp only at h1 h2 he ⊢
  refine G_run (kc := false) (ss := []) qTE2_ok hmQE 900 ?_
  unfold qEinLive qEHeap
  dsimp only
  subst h2
  rw [qEhin_body]
  cases hd : decide ((i : Int) - 1 ≥ 0) with
  | false =>
    simp only [decide_eq_false_iff_not] at hd
    obtain rfl : i = 0 := by omega
    exact ⟨by rw [← he]; rfl, rfl⟩
  | true =>
    simp only [decide_eq_true_eq] at hd
    obtain ⟨j, rfl⟩ : ∃ j, i = j + 1 := ⟨i - 1, by omega⟩
    have e1 : ((j + 1 : Nat) : Int) - 1 = (j : Int) := by omega
    have e2 : IntKind.wrap .i64 ((j : Int) - 1) = (j : Int) - 1 := IntWalk.i64_in _ (by omega)
    rw [e1]
    refine ⟨rfl, xs, ⟨rfl, rfl, rfl, rfl⟩, ⟨rfl, rfl, rfl, by omega, by omega, by omega, by omega, by omega⟩, bef, hR, fun bb => ?_⟩
    simp only [Int.toNat_natCast]
    rw [e2]
    exact G_back (downL (lessI bef) ((⟨0, 0, 0, ByteArray.empty, ByteArray.empty⟩ : EV), (0 : Int)) xs.length xs j xs.length, j) ⟨by dsimp only; omega, length_downL _ _ _ _, he⟩ (by dsimp only; omega) rfl ⟨rfl, rfl, rfl, trivial⟩ (fun w hw => hw)
end
theorem qEhinit_ok : CtrOk Try.prog 118 (hinitC 214 6 encItE ((⟨0, 0, 0, ByteArray.empty, ByteArray.empty⟩ : EV), (0 : Int)) 212 RE) := by
  intro args hs N h
  unfold hinitC at h
  split at h
  · rename_i t l b
    unfold onPile at h
    split at h
    · rename_i b' l2 ao n' cap f rest T hl
      split at h
      · rename_i e hl2
        obtain ⟨xs, ⟨rfl, rfl, rfl, hne⟩, ⟨rfl, g1⟩, bef, hR, hN⟩ := h
        refine Spec.pile 214 6 encItE ((⟨0, 0, 0, ByteArray.empty, ByteArray.empty⟩ : EV), (0 : Int)) hl hl2 hne (args' := [.iface 212 (.ptr 0 b' 0)]) (Post' := fun h' r => h' = qhG 214 6 encItE ((⟨0, 0, 0, ByteArray.empty, ByteArray.empty⟩ : EV), (0 : Int)) b' ao cap f rest T (initL (lessI bef) ((⟨0, 0, 0, ByteArray.empty, ByteArray.empty⟩ : EV), (0 : Int)) (xs.length / 2) xs) ∧ r = .tuple []) (by rfl) (fun _ _ => ?_) ?_
        · refine Spec.of_G 17 Try.func118 (c := bodyOf Try.f118) (by kernel_rfl) (by kernel_rfl) (Nat.le_of_ble_eq_true rfl) fun W F => ?_
          refine G_run (kc := false) (ss := []) qTE2_ok hmQE 900 ?_
          rw [qEhin_start (J := fun _ _ => False) (u := fun _ => undef)]
          have hw : IntKind.wrap .i64 (IntKind.wrap .i64 (Int.tdiv (xs.length : Int) 2) - 1) = ((xs.length / 2 : Nat) : Int) - 1 := by
            rw [Int.tdiv_eq_ediv_of_nonneg (by omega), IntWalk.i64_in ((xs.length : Int) / 2) (by omega), IntWalk.i64_in _ (by omega)]; omega
          rw [hw]
          refine ⟨rfl, ?_⟩
          repeat' first
            | exact rfl
            | decide
            | exact G_loopAt [] (bodyOf Try.f118) [1, 1, 0] 17 (qEinLive b' xs.length) (qEHeap b' cap ao rest T f) (QEIn bef xs.length (initL (lessI bef) ((⟨0, 0, 0, ByteArray.empty, ByteArray.empty⟩ : EV), (0 : Int)) (xs.length / 2) xs)) (fun s => s.2) (xs, xs.length / 2) (by kernel_rfl) (fun J => by kernel_rfl) ⟨by dsimp only; omega, rfl, rfl⟩ rfl ⟨rfl, rfl, rfl, trivial⟩ (fun w hw => hw) fun s hs u => qEin_round b' cap ao rest T f bef xs.length _ hR g1 s hs u
            | apply And.intro
            | fail
        · rintro h' r ⟨rfl, rfl⟩
          exact ⟨_, ao, cap, rest, _, fun W F w hr => hr, rfl, hN⟩
      · exact h.elim
    · exact h.elim
  · exact h.elim
end Go.Proofs.Ytkcmgcoppecfpaa

/- queue.Queue[reveille/api.Event]: what is dropped. -/
namespace Go.Proofs.Ytkcmgcoppecfpaa
open Go Go.RowKit

theorem qDE0_ok : AllOk Try.prog qDE0 := ⟨inl_ok ⟨inl_ok trivial hmQE Try.func86 (by kernel_rfl), trivial⟩ hmQE Try.func117 (by kernel_rfl), trivial⟩
theorem specDelE {fid : FuncId} {hs : List Ent} {args args' : List SV} {Post : List Ent → SV → Prop} {l lm lr : Nat} {ao : Option Addr} {cap : Nat} {xs : List (EV × Int)} {bm br : Nat} {un : ByteArray}  (xs' : List (EV × Int)) (r0 : SV) (h1 : nth hs l = some ⟨.sl ao cap, .vecL 214 6 encItE xs ((⟨0, 0, 0, ByteArray.empty, ByteArray.empty⟩ : EV), (0 : Int))⟩) (h2 : nth hs lm = some ⟨.blk bm, .cells [.func (.func 86) [] [.ptr lr br 0]] 160⟩) (h3 : nth hs lr = some ⟨.blk br, .cells [.str un] 9⟩) (hd : distinct [l, lm, lr] = true)
    (hs0 : Spec Try.prog fid [⟨.sl ao cap, .vecL 214 6 encItE xs ((⟨0, 0, 0, ByteArray.empty, ByteArray.empty⟩ : EV), (0 : Int))⟩, ⟨.blk bm, .cells [.func (.func 86) [] [.ptr 2 br 0]] 160⟩, ⟨.blk br, .cells [.str un] 9⟩] args' (up (fun (h' : List Ent) (r : SV) => h' = [⟨.sl ao cap, .vecL 214 6 encItE xs' ((⟨0, 0, 0, ByteArray.empty, ByteArray.empty⟩ : EV), (0 : Int))⟩, ⟨.blk bm, .cells [.func (.func 86) [] [.ptr 2 br 0]] 160⟩, ⟨.blk br, .cells [.str un] 9⟩] ∧ den r = den r0))) (ha : denL args = denL args') (hN : Post (setN hs l ⟨.sl ao cap, .vecL 214 6 encItE xs' ((⟨0, 0, 0, ByteArray.empty, ByteArray.empty⟩ : EV), (0 : Int))⟩) r0) : Spec Try.prog fid hs args Post := by
  refine Spec.at (hp := [⟨.sl ao cap, .vecL 214 6 encItE xs ((⟨0, 0, 0, ByteArray.empty, ByteArray.empty⟩ : EV), (0 : Int))⟩, ⟨.blk bm, .cells [.func (.func 86) [] [.ptr lr br 0]] 160⟩, ⟨.blk br, .cells [.str un] 9⟩]) (args' := args') (Post' := fun h' r => h' = [⟨.sl ao cap, .vecL 214 6 encItE xs' ((⟨0, 0, 0, ByteArray.empty, ByteArray.empty⟩ : EV), (0 : Int))⟩, ⟨.blk bm, .cells [.func (.func 86) [] [.ptr lr br 0]] 160⟩, ⟨.blk br, .cells [.str un] 9⟩] ∧ den r = den r0) [l, lm, lr] hd (by simp [pickE, h1, h2, h3]) ?_ ha ?_
  · intro W F w hr
    refine Calls.mono (hs0 W F w (Rep.cellsEq (l := 1) (cs' := [.func (.func 86) [] [.ptr 2 br 0]]) rfl (by rfl) hr)) ?_
    rintro e w' ⟨h', r, ⟨h'', r', hi, hr1, rfl, hr2⟩, rfl, hr'⟩
    refine ⟨[⟨.sl ao cap, .vecL 214 6 encItE xs' ((⟨0, 0, 0, ByteArray.empty, ByteArray.empty⟩ : EV), (0 : Int))⟩, ⟨.blk bm, .cells [.func (.func 86) [] [.ptr lr br 0]] 160⟩, ⟨.blk br, .cells [.str un] 9⟩], r', ⟨rfl, hr2⟩, by rw [hr1], ?_⟩
    exact Rep.cellsEq (l := 1) (cs' := [.func (.func 86) [] [.ptr lr br 0]]) rfl (by rfl) (hi _ _ _ hr')
  · rintro h' r ⟨rfl, hr⟩
    refine ⟨Nat.le_refl _, r0, hr, ?_⟩
    simp only [distinct, Bool.and_eq_true] at hd
    have n1 : l ≠ lm := by rintro rfl; simp at hd
    have n2 : l ≠ lr := by rintro rfl; simp at hd
    have e2 : nth (setN hs l ⟨.sl ao cap, .vecL 214 6 encItE xs' ((⟨0, 0, 0, ByteArray.empty, ByteArray.empty⟩ : EV), (0 : Int))⟩) lm = some ⟨.blk bm, .cells [.func (.func 86) [] [.ptr lr br 0]] 160⟩ := by rw [nth_eq, setN_eq, List.getElem?_set_ne n1, ← nth_eq]; exact h2
    have e3 : nth (setN hs l ⟨.sl ao cap, .vecL 214 6 encItE xs' ((⟨0, 0, 0, ByteArray.empty, ByteArray.empty⟩ : EV), (0 : Int))⟩) lr = some ⟨.blk br, .cells [.str un] 9⟩ := by rw [nth_eq, setN_eq, List.getElem?_set_ne n2, ← nth_eq]; exact h3
    have : putBack [l, lm, lr] hs [⟨.sl ao cap, .vecL 214 6 encItE xs' ((⟨0, 0, 0, ByteArray.empty, ByteArray.empty⟩ : EV), (0 : Int))⟩, ⟨.blk bm, .cells [.func (.func 86) [] [.ptr lr br 0]] 160⟩, ⟨.blk br, .cells [.str un] 9⟩] = setN hs l ⟨.sl ao cap, .vecL 214 6 encItE xs' ((⟨0, 0, 0, ByteArray.empty, ByteArray.empty⟩ : EV), (0 : Int))⟩ := by
      simp only [putBack, appE_eq, List.append_nil]
      rw [setN_selfD e2, setN_selfD e3]
    rw [this]; exact hN
theorem ixfE_spec (ao : Option Addr) (cap : Nat) (xs : List (EV × Int)) (bm br : Nat) (un : ByteArray) (hx : xs.length ≤ 1000000000) : Spec Try.prog 141 [⟨.sl ao cap, .vecL 214 6 encItE xs ((⟨0, 0, 0, ByteArray.empty, ByteArray.empty⟩ : EV), (0 : Int))⟩, ⟨.blk bm, .cells [.func (.func 86) [] [.ptr 2 br 0]] 160⟩, ⟨.blk br, .cells [.str un] 9⟩] [.vec 0 ao xs.length cap, .func (.func 117) [] [.ptr 1 bm 0]] (up fun h' r => h' = [⟨.sl ao cap, .vecL 214 6 encItE xs ((⟨0, 0, 0, ByteArray.empty, ByteArray.empty⟩ : EV), (0 : Int))⟩, ⟨.blk bm, .cells [.func (.func 86) [] [.ptr 2 br 0]] 160⟩, ⟨.blk br, .cells [.str un] 9⟩] ∧ den r = den (.int .i64 (dIx (fun x : EV × Int => qEpred un x.1) xs 0))) := by
  refine Spec.of_G 19 Try.func141 (c := bodyOf Try.f141) (by kernel_rfl) (by kernel_rfl) (Nat.le_of_ble_eq_true rfl) fun W F => ?_
  refine G_run (kc := false) (ss := []) qDE0_ok hmQE 300 ?_
  rw [qEix_start]
  refine G_loopAt (ι := Nat) [] (bodyOf Try.f141) [1, 0, 1, 0] 19 (fun i => [(0, .vec 0 ao xs.length cap), (1, .func (.func 117) [] [.ptr 1 bm 0]), (7, .int .i64 (xs.length : Int)), (8, .int .i64 (i : Int))]) (fun _ => [⟨.sl ao cap, .vecL 214 6 encItE xs ((⟨0, 0, 0, ByteArray.empty, ByteArray.empty⟩ : EV), (0 : Int))⟩, ⟨.blk bm, .cells [.func (.func 86) [] [.ptr 2 br 0]] 160⟩, ⟨.blk br, .cells [.str un] 9⟩]) (fun i => i ≤ xs.length ∧ dIx (fun x : EV × Int => qEpred un x.1) (xs.drop i) i = dIx (fun x : EV × Int => qEpred un x.1) xs 0) (fun i => xs.length - i) 0 (by kernel_rfl) (fun J => by kernel_rfl) ⟨Nat.zero_le _, rfl⟩ rfl ⟨rfl, rfl, rfl, rfl, trivial⟩ (fun w hw => hw) fun i hi u => ?_
  obtain ⟨h1, h2⟩ := hi
  simp only [List.nil_append, List.cons_append]
  refine G_run (kc := false) (ss := []) qDE0_ok hmQE 900 ?_
  rw [qEix_body]
  cases hlt : decide ((i : Int) < (xs.length : Int)) with
  | false =>
    simp only [decide_eq_false_iff_not] at hlt
    have hi : i = xs.length := by omega
    subst hi
    rw [List.drop_length] at h2
    exact ⟨_, _, fun W F w hr => hr, rfl, rfl, by rw [← h2]; rfl⟩
  | true =>
    simp only [decide_eq_true_eq] at hlt
    have hlt' : i < xs.length := by omega
    rw [dIx_drop _ ((⟨0, 0, 0, ByteArray.empty, ByteArray.empty⟩ : EV), (0 : Int)) _ _ hlt'] at h2
    have e1 : Int.toNat (i : Int) = i := by omega
    have e2 : IntKind.wrap .i64 ((i : Int) + 1) = ((i + 1 : Nat) : Int) := IntWalk.i64_in _ (by omega)
    rw [e1, e2]
    cases hp : qEpred un (xs.getD i ((⟨0, 0, 0, ByteArray.empty, ByteArray.empty⟩ : EV), (0 : Int))).1 with
    | true =>
      simp only [hp] at h2
      unfold qEpred at hp
      try simp only [hp]
      have fin : ∀ t : List Ent, (up fun h' r => h' = [⟨.sl ao cap, .vecL 214 6 encItE xs ((⟨0, 0, 0, ByteArray.empty, ByteArray.empty⟩ : EV), (0 : Int))⟩, ⟨.blk bm, .cells [.func (.func 86) [] [.ptr 2 br 0]] 160⟩, ⟨.blk br, .cells [.str un] 9⟩] ∧ den r = den (.int .i64 (dIx (fun x : EV × Int => qEpred un x.1) xs 0))) (⟨.sl ao cap, .vecL 214 6 encItE xs ((⟨0, 0, 0, ByteArray.empty, ByteArray.empty⟩ : EV), (0 : Int))⟩ :: ⟨.blk bm, .cells [.func (.func 86) [] [.ptr 2 br 0]] 160⟩ :: ⟨.blk br, .cells [.str un] 9⟩ :: t) (.int .i64 (i : Int)) := fun t =>
        ⟨[⟨.sl ao cap, .vecL 214 6 encItE xs ((⟨0, 0, 0, ByteArray.empty, ByteArray.empty⟩ : EV), (0 : Int))⟩, ⟨.blk bm, .cells [.func (.func 86) [] [.ptr 2 br 0]] 160⟩, ⟨.blk br, .cells [.str un] 9⟩], _, fun W F w hr => Rep.dropR (h := [_, _, _]) hr, rfl, rfl, by rw [← h2]⟩
      repeat' first
        | exact rfl
        | exact trivial
        | exact fin _
        | apply And.intro
        | (show _ ≤ _; omega)
        | (show _ < _; omega)
        | decide
        | (refine fun _ => ?_)
        | fail
    | false =>
      simp only [hp] at h2
      unfold qEpred at hp
      try simp only [hp]
      repeat' first
        | exact rfl
        | exact trivial
        | (exact G_back (i + 1) ⟨by omega, h2⟩ (by omega) rfl ⟨rfl, rfl, rfl, rfl, trivial⟩ (fun w hw => Rep.dropR (h := [_, _, _]) hw))
        | apply And.intro
        | (show _ ≤ _; omega)
        | (show _ < _; omega)
        | decide
        | (refine fun _ => ?_)
        | fail

theorem ixfE_ok : CtrOk Try.prog 141 ixfEC := by
  intro args hs N h
  unfold ixfEC at h
  split at h
  case h_2 => exact h.elim
  rename_i l ao n cap g lm bm
  obtain ⟨rfl, xs, lr, br, un, h1, h2, h3, ⟨hd, rfl, hx⟩, hN⟩ := h
  refine specDelE xs (.int .i64 (dIx (fun x : EV × Int => qEpred un x.1) xs 0)) h1 h2 h3 hd (args' := [.vec 0 ao xs.length cap, .func (.func 117) [] [.ptr 1 bm 0]]) (ixfE_spec ao cap xs bm br un hx) rfl ?_
  rw [setN_selfD h1]
  exact hN
theorem qDE1_ok : AllOk Try.prog qDE1 := ⟨ixfE_ok, qDE0_ok⟩
theorem dlfE_spec (ao : Option Addr) (cap : Nat) (xs : List (EV × Int)) (bm br : Nat) (un : ByteArray) (hx : xs.length ≤ 1000000000) : Spec Try.prog 116 [⟨.sl ao cap, .vecL 214 6 encItE xs ((⟨0, 0, 0, ByteArray.empty, ByteArray.empty⟩ : EV), (0 : Int))⟩, ⟨.blk bm, .cells [.func (.func 86) [] [.ptr 2 br 0]] 160⟩, ⟨.blk br, .cells [.str un] 9⟩] [.vec 0 ao xs.length cap, .func (.func 117) [] [.ptr 1 bm 0]] (up fun h' r => h' = [⟨.sl ao cap, .vecL 214 6 encItE (xs.filter (fun x : EV × Int => !qEpred un x.1)) ((⟨0, 0, 0, ByteArray.empty, ByteArray.empty⟩ : EV), (0 : Int))⟩, ⟨.blk bm, .cells [.func (.func 86) [] [.ptr 2 br 0]] 160⟩, ⟨.blk br, .cells [.str un] 9⟩] ∧ den r = den (.vec 0 ao (xs.filter (fun x : EV × Int => !qEpred un x.1)).length cap)) := by
  refine Spec.of_G 42 Try.func116 (c := bodyOf Try.f116) (by kernel_rfl) (by kernel_rfl) (Nat.le_of_ble_eq_true rfl) fun W F => ?_
  refine G_vec (l := 0) rfl fun hcap _ => ?_
  refine G_run (kc := false) (ss := []) qDE1_ok hmQE 600 ?_
  rw [qEde_start]
  refine ⟨rfl, rfl, xs, 2, br, un, rfl, rfl, rfl, ⟨rfl, rfl, hx⟩, ?_⟩
  have hm : (dIx (fun x : EV × Int => qEpred un x.1) xs 0 == -1) = true ∨ ∃ i0 : Nat, dIx (fun x : EV × Int => qEpred un x.1) xs 0 = i0 ∧ i0 < xs.length ∧ (fun x : EV × Int => qEpred un x.1) (xs.getD i0 ((⟨0, 0, 0, ByteArray.empty, ByteArray.empty⟩ : EV), (0 : Int))) = true ∧ ∀ x ∈ xs.take i0, (fun x : EV × Int => qEpred un x.1) x = false := by
    rcases dIx_lt (fun x : EV × Int => qEpred un x.1) xs 0 with h | h
    · exact .inl (by rw [h]; rfl)
    · obtain ⟨i0, hi0⟩ := Int.eq_ofNat_of_zero_le h.1
      obtain ⟨h1, h2, h3⟩ := dIx_first (fun x : EV × Int => qEpred un x.1) ((⟨0, 0, 0, ByteArray.empty, ByteArray.empty⟩ : EV), (0 : Int)) xs 0 i0 (by rw [hi0]; simp) (by omega)
      exact .inr ⟨i0, hi0, h1, h2, h3⟩
  rcases hm with hm | ⟨i0, hi0, hlt0, hp0, hall⟩
  · rw [hm]
    have hno := (dIx_none (fun x : EV × Int => qEpred un x.1) xs 0 (by omega)).1 (by simpa using hm)
    have : xs.filter (fun x : EV × Int => !qEpred un x.1) = xs := List.filter_eq_self.2 fun x hx => by have := hno x hx; (try dsimp only at this ⊢); rw [this]; rfl
    rw [this]
    exact ⟨_, _, fun W F w hr => hr, rfl, rfl, rfl⟩
  · have hne : (dIx (fun x : EV × Int => qEpred un x.1) xs 0 == -1) = false := by rw [hi0]; simp
    rw [hne, hi0]
    have e1 : IntKind.wrap .i64 ((i0 : Int) + 1) = ((i0 + 1 : Nat) : Int) := IntWalk.i64_in _ (by omega)
    rw [e1]
    have hf0 : (xs.take i0).filter (fun x : EV × Int => !qEpred un x.1) = xs.take i0 := List.filter_eq_self.2 fun x hx => by have := hall x hx; (try dsimp only at this ⊢); rw [this]; rfl
    refine G_loopAt (ι := List (EV × Int) × Nat × Nat) [] (bodyOf Try.f116) [1, 1, 1, 0, 1, 0] 42 (fun s => [(0, .vec 0 ao s.1.length cap), (1, .func (.func 117) [] [.ptr 1 bm 0]), (5, .int .i64 (s.2.1 : Int)), (6, .int .i64 (s.2.2 : Int))]) (fun s => [⟨.sl ao cap, .vecL 214 6 encItE s.1 ((⟨0, 0, 0, ByteArray.empty, ByteArray.empty⟩ : EV), (0 : Int))⟩, ⟨.blk bm, .cells [.func (.func 86) [] [.ptr 2 br 0]] 160⟩, ⟨.blk br, .cells [.str un] 9⟩])
      (fun s => s.1.length = xs.length ∧ s.2.1 < s.2.2 ∧ s.2.2 ≤ xs.length ∧ s.1.take s.2.1 = (xs.take s.2.2).filter (fun x : EV × Int => !qEpred un x.1) ∧ s.1.drop s.2.2 = xs.drop s.2.2) (fun s => xs.length - s.2.2) (xs, i0, i0 + 1) (by kernel_rfl) (fun J => by kernel_rfl)
      ⟨rfl, by dsimp only; omega, by dsimp only; omega, by (try dsimp only at hp0 ⊢); rw [filter_takeD _ ((⟨0, 0, 0, ByteArray.empty, ByteArray.empty⟩ : EV), (0 : Int)) _ _ hlt0, hf0, hp0]; simp, rfl⟩ rfl ⟨rfl, rfl, rfl, rfl, trivial⟩ (fun w hw => hw) ?_
    rintro ⟨ys, i, j⟩ ⟨h1, h2, h3, h4, h5⟩ u
    dsimp only at h1 h2 h3 h4 h5 ⊢
    simp only [List.nil_append, List.cons_append]
    refine G_run (kc := false) (ss := []) qDE1_ok hmQE 900 ?_
    rw [qEde_body]
    have t1 : Int.toNat (i : Int) = i := by omega
    have t2 : Int.toNat (j : Int) = j := by omega
    have t3 : IntKind.wrap .i64 ((i : Int) + 1) = ((i + 1 : Nat) : Int) := IntWalk.i64_in _ (by omega)
    have t4 : IntKind.wrap .i64 ((j : Int) + 1) = ((j + 1 : Nat) : Int) := IntWalk.i64_in _ (by omega)
    rw [t1, t2, t3, t4]
    cases hlt : decide ((j : Int) < (ys.length : Int)) with
    | true =>
      simp only [decide_eq_true_eq] at hlt
      have hj : ys.getD j ((⟨0, 0, 0, ByteArray.empty, ByteArray.empty⟩ : EV), (0 : Int)) = xs.getD j ((⟨0, 0, 0, ByteArray.empty, ByteArray.empty⟩ : EV), (0 : Int)) := by
        have := congrArg (fun l => l.getD 0 ((⟨0, 0, 0, ByteArray.empty, ByteArray.empty⟩ : EV), (0 : Int))) h5
        simpa [List.getD, List.getElem?_drop] using this
      have hdr : ys.drop (j + 1) = xs.drop (j + 1) := by
        have := congrArg (List.drop 1) h5
        simpa [List.drop_drop, Nat.add_comm] using this
      have hft := filter_takeD (fun x : EV × Int => !qEpred un x.1) ((⟨0, 0, 0, ByteArray.empty, ByteArray.empty⟩ : EV), (0 : Int)) xs j (by omega)
      rw [hj]
      cases hq : qEpred un (xs.getD j ((⟨0, 0, 0, ByteArray.empty, ByteArray.empty⟩ : EV), (0 : Int))).1 with
      | false =>
        try dsimp only at hft
        rw [hq] at hft
        unfold qEpred at hq
        simp only [hq, Bool.not_false]
        repeat' first
          | exact rfl
          | exact trivial
          | (refine ⟨xs.getD j ((⟨0, 0, 0, ByteArray.empty, ByteArray.empty⟩ : EV), (0 : Int)), rfl, ?_⟩)
          | (refine G_back (ys.set i (xs.getD j ((⟨0, 0, 0, ByteArray.empty, ByteArray.empty⟩ : EV), (0 : Int))), i + 1, j + 1) ⟨by simp [h1], by dsimp only; omega, by dsimp only; omega, ?_, ?_⟩ (by dsimp only; omega) rfl ⟨(by show Value.slice ao ys.length cap = Value.slice ao _ cap; rw [List.length_set]), rfl, rfl, rfl, trivial⟩ (fun w hw => Rep.dropR (h := [_, _, _]) hw))
          | apply And.intro
          | (show _ ≤ _; omega)
          | (show _ < _; omega)
          | decide
          | (refine fun _ => ?_)
          | fail
        · dsimp only
          rw [hft, ← h4, List.take_succ_eq_append_getElem (by simp; omega), List.take_set_of_le (Nat.le_refl _)]
          simp
        · dsimp only
          rw [List.drop_set_of_lt (by omega)]
          exact hdr
      | true =>
        try dsimp only at hft
        rw [hq] at hft
        unfold qEpred at hq
        simp only [hq, Bool.not_true]
        repeat' first
          | exact rfl
          | exact trivial
          | (refine G_back (ys, i, j + 1) ⟨h1, by dsimp only; omega, by dsimp only; omega, ?_, hdr⟩ (by dsimp only; omega) rfl ⟨rfl, rfl, rfl, rfl, trivial⟩ (fun w hw => Rep.dropR (h := [_, _, _]) hw))
          | apply And.intro
          | (show _ ≤ _; omega)
          | (show _ < _; omega)
          | decide
          | (refine fun _ => ?_)
          | fail
        dsimp only
        rw [hft, h4]; simp
    | false =>
      simp only [decide_eq_false_iff_not] at hlt
      have hje : j = xs.length := by omega
      subst hje
      rw [List.take_length] at h4
      refine ⟨⟨by omega, by omega, by omega⟩, ⟨rfl, rfl, rfl, rfl, rfl, by omega, Nat.le_refl _⟩, ⟨by omega, by omega⟩, ?_⟩
      refine ⟨_, _, fun W F w hr => hr, rfl, by rw [h4], ?_⟩
      rw [← h4]
      have : (ys.take i).length = i := by simp; omega
      rw [this]
      simp only [den, Nat.sub_zero]
      by_cases hc : cap = 0
      · simp [hc]
      · rw [if_neg hc]
        cases ao with
        | none => rfl
        | some a => simp [Addr.add]
theorem dlfE_ok : CtrOk Try.prog 116 dlfEC := by
  intro args hs N h
  unfold dlfEC at h
  split at h
  case h_2 => exact h.elim
  rename_i l ao n cap g lm bm
  obtain ⟨rfl, xs, lr, br, un, h1, h2, h3, ⟨hd, rfl, hx⟩, hN⟩ := h
  exact specDelE (xs.filter (fun x : EV × Int => !qEpred un x.1)) (.vec l ao (xs.filter (fun x : EV × Int => !qEpred un x.1)).length cap) h1 h2 h3 hd (args' := [.vec 0 ao xs.length cap, .func (.func 117) [] [.ptr 1 bm 0]]) (dlfE_spec ao cap xs bm br un hx) rfl hN
end Go.Proofs.Ytkcmgcoppecfpaa

