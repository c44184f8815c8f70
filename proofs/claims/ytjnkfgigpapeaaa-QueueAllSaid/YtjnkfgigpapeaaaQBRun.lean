import Derived.Test.YtjnkfgigpapeaaaQBC
import Derived.Test.YtjnkfgigpapeaaaTab
namespace Go.Proofs.Ytjnkfgigpapeaaa
set_option linter.unusedVariables false
open Go Go.RowKit
set_option maxHeartbeats 0
set_option maxRecDepth 100000
set_option linter.unusedVariables false
set_option maxRecDepth 100000

theorem qb_start (K : List Frm → Sy → Prop) (N : List Ent → SV → Prop) (ao : Option Addr) (cap : Nat) (bs : List Int) (ao' : Option Addr) (cap' : Nat) (ps : List Bool) : (run Try.prog qTI5 false [] K (retP Try.prog Try.f10.results.toList N) 900 [.code (bodyOf Try.f10)] ⟨padTo 129 [.vec 0 ao bs.length cap, .vec 1 ao' ps.length cap'], [⟨.sl ao cap, .roL 1 encI16 bs 0⟩, ⟨.sl ao' cap', .roL 1 encBool ps false⟩]⟩) = (
true = true ∧
 match decide ((↑(List.length bs) : Int) > (100 : Int)) with
 | true => N [Ent.mk (Loc.sl ao cap) (SObj.roL 1 encI16 bs (0 : Int)), Ent.mk (Loc.sl ao' cap') (SObj.roL 1 encBool ps false)] (SV.bool true)
 | false =>
  true = true ∧
   (true = true ∧ true = true) ∧
    (true = true ∧ true = true) ∧
     true = true ∧
      ∀ (b : Nat),
       true = true ∧
        (true = true ∧ true = true) ∧
         (true = true ∧ true = true) ∧
          true = true ∧
           ∀ (b_1 : Nat),
            K (frm [] (bodyOf Try.f10) [1, 1, 1, 1, 1, 0, 1, 0] [])
             (Sy.mk
              [SV.vec 0 ao (List.length bs) cap, SV.vec 1 ao' (List.length ps) cap', SV.raw (Value.tuple #[]), SV.raw (Value.tuple #[]), SV.bool false,
               SV.ptr 2 b 0, SV.ptr 3 b_1 0, SV.int IntKind.i64 (0 : Int), SV.raw (Value.tuple #[]), SV.raw (Value.tuple #[]), SV.raw (Value.tuple #[]),
               SV.raw (Value.tuple #[]), SV.raw (Value.tuple #[]), SV.raw (Value.tuple #[]), SV.raw (Value.tuple #[]), SV.raw (Value.tuple #[]), SV.raw (Value.tuple #[]),
               SV.raw (Value.tuple #[]), SV.raw (Value.tuple #[]), SV.bool true, SV.bool false, SV.vec 0 ao (List.length bs) cap, SV.int IntKind.i64 (↑(List.length bs) : Int),
               SV.bool false, SV.ptr 2 b 0, SV.ptr 3 b_1 0, SV.raw (Value.tuple #[]), SV.raw (Value.tuple #[]), SV.raw (Value.tuple #[]),
               SV.raw (Value.tuple #[]), SV.raw (Value.tuple #[]), SV.raw (Value.tuple #[]), SV.raw (Value.tuple #[]), SV.raw (Value.tuple #[]), SV.raw (Value.tuple #[]),
               SV.raw (Value.tuple #[]), SV.raw (Value.tuple #[]), SV.raw (Value.tuple #[]), SV.raw (Value.tuple #[]), SV.raw (Value.tuple #[]), SV.raw (Value.tuple #[]),
               SV.raw (Value.tuple #[]), SV.raw (Value.tuple #[]), SV.raw (Value.tuple #[]), SV.raw (Value.tuple #[]), SV.raw (Value.tuple #[]), SV.raw (Value.tuple #[]),
               SV.raw (Value.tuple #[]), SV.raw (Value.tuple #[]), SV.raw (Value.tuple #[]), SV.raw (Value.tuple #[]), SV.raw (Value.tuple #[]), SV.raw (Value.tuple #[]),
               SV.raw (Value.tuple #[]), SV.raw (Value.tuple #[]), SV.raw (Value.tuple #[]), SV.raw (Value.tuple #[]), SV.raw (Value.tuple #[]), SV.raw (Value.tuple #[]),
               SV.raw (Value.tuple #[]), SV.raw (Value.tuple #[]), SV.raw (Value.tuple #[]), SV.raw (Value.tuple #[]), SV.raw (Value.tuple #[]), SV.raw (Value.tuple #[]),
               SV.raw (Value.tuple #[]), SV.raw (Value.tuple #[]), SV.raw (Value.tuple #[]), SV.raw (Value.tuple #[]), SV.raw (Value.tuple #[]), SV.raw (Value.tuple #[]),
               SV.raw (Value.tuple #[]), SV.raw (Value.tuple #[]), SV.raw (Value.tuple #[]), SV.raw (Value.tuple #[]), SV.raw (Value.tuple #[]), SV.raw (Value.tuple #[]),
               SV.raw (Value.tuple #[]), SV.raw (Value.tuple #[]), SV.raw (Value.tuple #[]), SV.raw (Value.tuple #[]), SV.raw (Value.tuple #[]), SV.raw (Value.tuple #[]),
               SV.raw (Value.tuple #[]), SV.raw (Value.tuple #[]), SV.raw (Value.tuple #[]), SV.raw (Value.tuple #[]), SV.raw (Value.tuple #[]), SV.raw (Value.tuple #[]),
               SV.raw (Value.tuple #[]), SV.raw (Value.tuple #[]), SV.raw (Value.tuple #[]), SV.raw (Value.tuple #[]), SV.raw (Value.tuple #[]), SV.raw (Value.tuple #[]),
               SV.raw (Value.tuple #[]), SV.raw (Value.tuple #[]), SV.raw (Value.tuple #[]), SV.raw (Value.tuple #[]), SV.raw (Value.tuple #[]), SV.raw (Value.tuple #[]),
               SV.raw (Value.tuple #[]), SV.raw (Value.tuple #[]), SV.raw (Value.tuple #[]), SV.raw (Value.tuple #[]), SV.raw (Value.tuple #[]), SV.raw (Value.tuple #[]),
               SV.raw (Value.tuple #[]), SV.raw (Value.tuple #[]), SV.raw (Value.tuple #[]), SV.raw (Value.tuple #[]), SV.raw (Value.tuple #[]), SV.raw (Value.tuple #[]),
               SV.raw (Value.tuple #[]), SV.raw (Value.tuple #[]), SV.raw (Value.tuple #[]), SV.raw (Value.tuple #[]), SV.raw (Value.tuple #[]), SV.raw (Value.tuple #[]),
               SV.raw (Value.tuple #[]), SV.raw (Value.tuple #[]), SV.raw (Value.tuple #[]), SV.raw (Value.tuple #[]), SV.raw (Value.tuple #[]), SV.raw (Value.tuple #[]),
               SV.raw (Value.tuple #[]), SV.raw (Value.tuple #[]), SV.raw (Value.tuple #[]), SV.raw (Value.tuple #[])]
              [Ent.mk (Loc.sl ao cap) (SObj.roL 1 encI16 bs (0 : Int)), Ent.mk (Loc.sl ao' cap') (SObj.roL 1 encBool ps false),
               Ent.mk (Loc.blk b) (SObj.cells [SV.raw (Value.slice (@none Addr) 0 0), SV.func (Fn.func 41) [] [], SV.int IntKind.i64 (0 : Int)] 146),
               Ent.mk (Loc.blk b_1) (SObj.cells [SV.raw (Value.slice (@none Addr) 0 0), SV.func (Fn.func 42) [] [], SV.int IntKind.i64 (0 : Int)] 146)])) := by kernel_rfl


theorem qb_r1 (K : List Frm → Sy → Prop) (N : List Ent → SV → Prop) (J : Act → World → Prop) (u : Nat → Value) (ao : Option Addr) (cap : Nat) (bs : List Int) (ao' : Option Addr) (cap' : Nat) (ps : List Bool) (qa : Nat) (aoa : Option Addr) (capa : Nat) (xs : List (Int × Int)) (na : Int) (qb : Nat) (aob : Option Addr) (capb : Nat) (ys : List (Int × Int)) (nb : Int) (i : Int) : (run Try.prog qTI5 false [12] K (retP Try.prog Try.f10.results.toList N) 1500 (frm [J] (bodyOf Try.f10) [1, 1, 1, 1, 1, 0, 1, 0, 0] []) ⟨mkT u 129 0 [(0, .vec 0 ao bs.length cap), (1, .vec 1 ao' ps.length cap'), (4, .bool false), (5, .ptr 2 qa 0), (6, .ptr 4 qb 0), (7, .int .i64 i)], qbHeap ao cap bs ao' cap' ps qa aoa capa xs na qb aob capb ys nb⟩) = (
match decide (i < (↑(List.length bs) : Int)) with
| true =>
 (ao = ao ∧ cap = cap ∧ List.length bs = List.length bs ∧ (0 : Int) ≤ i ∧ i < (↑(List.length bs) : Int)) ∧
  (Addr.blkD ao = Addr.blkD ao ∧ Addr.offD ao = Addr.offD ao ∧ 1 = 1 ∧ Int.toNat i < List.length bs) ∧
   true = true ∧
    qa = qa ∧
     (true = true ∧ true = true) ∧
      true = true ∧
       ∃ (xs_1 : List (Int × Int)),
        (Ent.mk (Loc.sl aoa capa) (SObj.vecL (149 : TypeId) 2 encItI xs ((0 : Int), (0 : Int))) =
         Ent.mk (Loc.sl aoa capa) (SObj.vecL (149 : TypeId) 2 encItI xs_1 ((0 : Int), (0 : Int))) ∧
         qa = qa ∧ List.length xs = List.length xs_1 ∧ false = false) ∧
         ∃ (x : Int × Int),
          (147 = (147 : TypeId) ∧
           149 = (149 : TypeId) ∧
            [SV.int IntKind.i64 x.1, SV.int IntKind.i64 x.2] = [SV.int IntKind.i64 (IntKind.wrap IntKind.i64 (List.getD bs (Int.toNat i) (0 : Int))), SV.int IntKind.i64 na] ∧
             (List.length xs_1 + 1) * 16 ≤ 140737488355328 ∧ List.length xs_1 < 2305843009213693952) ∧
           ∃ (bef : Int → Int → Bool),
            RI (41 : FuncId) bef ∧
             ∀ (ao2 : Option Addr) (cap2 : Nat),
              qa = qa ∧
               (qa = qa ∧ true = true ∧ 1 = 1 ∧ 3 ≤ 3) ∧
                (ao = ao ∧ cap = cap ∧ List.length bs = List.length bs ∧ (0 : Int) ≤ i ∧ i < (↑(List.length bs) : Int)) ∧
                 (Addr.blkD ao = Addr.blkD ao ∧ Addr.offD ao = Addr.offD ao ∧ 1 = 1 ∧ Int.toNat i < List.length bs) ∧
                  true = true ∧
                   qb = qb ∧
                    (true = true ∧ true = true) ∧
                     true = true ∧
                      ∃ (xs : List (Int × Int)),
                       (Ent.mk (Loc.sl aob capb) (SObj.vecL (149 : TypeId) 2 encItI ys ((0 : Int), (0 : Int))) =
                        Ent.mk (Loc.sl aob capb) (SObj.vecL (149 : TypeId) 2 encItI xs ((0 : Int), (0 : Int))) ∧
                        qb = qb ∧ List.length ys = List.length xs ∧ false = false) ∧
                        ∃ (x_1 : Int × Int),
                         (147 = (147 : TypeId) ∧
                          149 = (149 : TypeId) ∧
                           [SV.int IntKind.i64 x_1.1, SV.int IntKind.i64 x_1.2] =
                            [SV.int IntKind.i64 (IntKind.wrap IntKind.i64 ((0 : Int) - IntKind.wrap IntKind.i64 (List.getD bs (Int.toNat i) (0 : Int)))),
                             SV.int IntKind.i64 nb] ∧
                            (List.length xs + 1) * 16 ≤ 140737488355328 ∧ List.length xs < 2305843009213693952) ∧
                          ∃ (bef_1 : Int → Int → Bool),
                           RI (42 : FuncId) bef_1 ∧
                            ∀ (ao2_1 : Option Addr) (cap2_1 : Nat),
                             qb = qb ∧
                              (qb = qb ∧ true = true ∧ 1 = 1 ∧ 3 ≤ 3) ∧
                               K (frmR [J] (bodyOf Try.f10) 12)
                                (Sy.mk
                                 [SV.vec 0 ao (List.length bs) cap, SV.vec 1 ao' (List.length ps) cap', SV.raw (u 2), SV.raw (u 3),
                                  SV.bool false, SV.ptr 2 qa 0, SV.ptr 4 qb 0, SV.int IntKind.i64 i, SV.raw (u 8),
                                  SV.raw (u 9), SV.raw (u 10), SV.raw (u 11), SV.raw (u 12), SV.raw (u 13),
                                  SV.raw (u 14), SV.raw (u 15), SV.raw (u 16), SV.raw (u 17), SV.raw (u 18),
                                  SV.raw (u 19), SV.raw (u 20), SV.raw (u 21), SV.raw (u 22), SV.raw (u 23),
                                  SV.raw (u 24), SV.raw (u 25), SV.int IntKind.i64 i, SV.vec 0 ao (List.length bs) cap,
                                  SV.int IntKind.i64 (↑(List.length bs) : Int), SV.bool true, SV.raw (u 30), SV.raw (u 31),
                                  SV.ptr 2 qa 0, SV.vec 0 ao (List.length bs) cap, SV.int IntKind.i64 i,
                                  SV.eptr 0 (Addr.blkD ao) (Addr.offD ao) 1 (Int.toNat i) 0,
                                  SV.int IntKind.i16 (List.getD bs (Int.toNat i) (0 : Int)),
                                  SV.int IntKind.i64 (IntKind.wrap IntKind.i64 (List.getD bs (Int.toNat i) (0 : Int))), SV.tuple [], SV.ptr 4 qb 0,
                                  SV.vec 0 ao (List.length bs) cap, SV.int IntKind.i64 i,
                                  SV.eptr 0 (Addr.blkD ao) (Addr.offD ao) 1 (Int.toNat i) 0,
                                  SV.int IntKind.i16 (List.getD bs (Int.toNat i) (0 : Int)),
                                  SV.int IntKind.i64 (IntKind.wrap IntKind.i64 (List.getD bs (Int.toNat i) (0 : Int))),
                                  SV.int IntKind.i64 (IntKind.wrap IntKind.i64 ((0 : Int) - IntKind.wrap IntKind.i64 (List.getD bs (Int.toNat i) (0 : Int)))),
                                  SV.tuple [], SV.raw (u 47), SV.raw (u 48), SV.raw (u 49), SV.raw (u 50), SV.raw (u 51),
                                  SV.raw (u 52), SV.raw (u 53), SV.raw (u 54), SV.raw (u 55), SV.raw (u 56),
                                  SV.raw (u 57), SV.raw (u 58), SV.raw (u 59), SV.raw (u 60), SV.raw (u 61),
                                  SV.raw (u 62), SV.raw (u 63), SV.raw (u 64), SV.raw (u 65), SV.raw (u 66),
                                  SV.raw (u 67), SV.raw (u 68), SV.raw (u 69), SV.raw (u 70), SV.raw (u 71),
                                  SV.raw (u 72), SV.raw (u 73), SV.raw (u 74), SV.raw (u 75), SV.raw (u 76),
                                  SV.raw (u 77), SV.raw (u 78), SV.raw (u 79), SV.raw (u 80), SV.raw (u 81),
                                  SV.raw (u 82), SV.raw (u 83), SV.raw (u 84), SV.raw (u 85), SV.raw (u 86),
                                  SV.raw (u 87), SV.raw (u 88), SV.raw (u 89), SV.raw (u 90), SV.raw (u 91),
                                  SV.raw (u 92), SV.raw (u 93), SV.raw (u 94), SV.raw (u 95), SV.raw (u 96),
                                  SV.raw (u 97), SV.raw (u 98), SV.raw (u 99), SV.raw (u 100), SV.raw (u 101),
                                  SV.raw (u 102), SV.raw (u 103), SV.raw (u 104), SV.raw (u 105), SV.raw (u 106),
                                  SV.raw (u 107), SV.raw (u 108), SV.raw (u 109), SV.raw (u 110), SV.raw (u 111),
                                  SV.raw (u 112), SV.raw (u 113), SV.raw (u 114), SV.raw (u 115), SV.raw (u 116),
                                  SV.raw (u 117), SV.raw (u 118), SV.raw (u 119), SV.raw (u 120), SV.raw (u 121),
                                  SV.raw (u 122), SV.raw (u 123), SV.raw (u 124), SV.raw (u 125), SV.raw (u 126),
                                  SV.raw (u 127), SV.raw (u 128)]
                                 [Ent.mk (Loc.sl ao cap) (SObj.roL 1 encI16 bs (0 : Int)), Ent.mk (Loc.sl ao' cap') (SObj.roL 1 encBool ps false),
                                  Ent.mk (Loc.blk qa)
                                   (SObj.cells
                                    [SV.vec 3 ao2 (List.length (pushL (lessI bef) ((0 : Int), (0 : Int)) xs_1 x)) cap2,
                                     SV.func (Fn.func (41 : FuncId)) [] [], SV.int IntKind.i64 (IntKind.wrap IntKind.i64 (na + (1 : Int)))]
                                    (146 : TypeId)),
                                  Ent.mk (Loc.sl ao2 cap2)
                                   (SObj.vecL (149 : TypeId) 2 encItI (pushL (lessI bef) ((0 : Int), (0 : Int)) xs_1 x) ((0 : Int), (0 : Int))),
                                  Ent.mk (Loc.blk qb)
                                   (SObj.cells
                                    [SV.vec 5 ao2_1 (List.length (pushL (lessI bef_1) ((0 : Int), (0 : Int)) xs x_1)) cap2_1,
                                     SV.func (Fn.func (42 : FuncId)) [] [], SV.int IntKind.i64 (IntKind.wrap IntKind.i64 (nb + (1 : Int)))]
                                    (146 : TypeId)),
                                  Ent.mk (Loc.sl ao2_1 cap2_1)
                                   (SObj.vecL (149 : TypeId) 2 encItI (pushL (lessI bef_1) ((0 : Int), (0 : Int)) xs x_1) ((0 : Int), (0 : Int)))])
| false =>
 K (frm [] (bodyOf Try.f10) [1, 1, 1, 1, 1, 1, 1, 0, 0] [])
  (Sy.mk
   [SV.vec 0 ao (List.length bs) cap, SV.vec 1 ao' (List.length ps) cap', SV.raw (u 2), SV.raw (u 3), SV.bool false, SV.ptr 2 qa 0,
    SV.ptr 4 qb 0, SV.int IntKind.i64 i, SV.raw (u 8), SV.raw (u 9), SV.raw (u 10), SV.raw (u 11), SV.int IntKind.i64 (0 : Int), SV.bool false,
    SV.raw (u 14), SV.raw (u 15), SV.raw (u 16), SV.raw (u 17), SV.raw (u 18), SV.raw (u 19), SV.raw (u 20), SV.raw (u 21),
    SV.raw (u 22), SV.raw (u 23), SV.raw (u 24), SV.raw (u 25), SV.int IntKind.i64 i, SV.vec 0 ao (List.length bs) cap,
    SV.int IntKind.i64 (↑(List.length bs) : Int), SV.bool false, SV.raw (u 30), SV.raw (u 31), SV.raw (u 32), SV.raw (u 33), SV.raw (u 34),
    SV.raw (u 35), SV.raw (u 36), SV.raw (u 37), SV.raw (u 38), SV.raw (u 39), SV.raw (u 40), SV.raw (u 41), SV.raw (u 42),
    SV.raw (u 43), SV.raw (u 44), SV.raw (u 45), SV.raw (u 46), SV.raw (u 47), SV.raw (u 48), SV.raw (u 49), SV.raw (u 50),
    SV.raw (u 51), SV.raw (u 52), SV.raw (u 53), SV.raw (u 54), SV.raw (u 55), SV.raw (u 56), SV.raw (u 57), SV.raw (u 58),
    SV.raw (u 59), SV.raw (u 60), SV.raw (u 61), SV.raw (u 62), SV.raw (u 63), SV.raw (u 64), SV.raw (u 65), SV.raw (u 66),
    SV.raw (u 67), SV.raw (u 68), SV.raw (u 69), SV.raw (u 70), SV.raw (u 71), SV.raw (u 72), SV.raw (u 73), SV.raw (u 74),
    SV.raw (u 75), SV.raw (u 76), SV.raw (u 77), SV.raw (u 78), SV.raw (u 79), SV.raw (u 80), SV.raw (u 81), SV.raw (u 82),
    SV.raw (u 83), SV.raw (u 84), SV.raw (u 85), SV.raw (u 86), SV.raw (u 87), SV.raw (u 88), SV.raw (u 89), SV.raw (u 90),
    SV.raw (u 91), SV.raw (u 92), SV.raw (u 93), SV.raw (u 94), SV.raw (u 95), SV.raw (u 96), SV.raw (u 97), SV.raw (u 98),
    SV.raw (u 99), SV.raw (u 100), SV.raw (u 101), SV.raw (u 102), SV.raw (u 103), SV.raw (u 104), SV.raw (u 105), SV.raw (u 106),
    SV.raw (u 107), SV.raw (u 108), SV.raw (u 109), SV.raw (u 110), SV.raw (u 111), SV.raw (u 112), SV.raw (u 113), SV.raw (u 114),
    SV.raw (u 115), SV.raw (u 116), SV.raw (u 117), SV.raw (u 118), SV.raw (u 119), SV.raw (u 120), SV.raw (u 121), SV.raw (u 122),
    SV.raw (u 123), SV.raw (u 124), SV.raw (u 125), SV.raw (u 126), SV.raw (u 127), SV.raw (u 128)]
   [Ent.mk (Loc.sl ao cap) (SObj.roL 1 encI16 bs (0 : Int)), Ent.mk (Loc.sl ao' cap') (SObj.roL 1 encBool ps false),
    Ent.mk (Loc.blk qa) (SObj.cells [SV.vec 3 aoa (List.length xs) capa, SV.func (Fn.func (41 : FuncId)) [] [], SV.int IntKind.i64 na] (146 : TypeId)),
    Ent.mk (Loc.sl aoa capa) (SObj.vecL (149 : TypeId) 2 encItI xs ((0 : Int), (0 : Int))),
    Ent.mk (Loc.blk qb) (SObj.cells [SV.vec 5 aob (List.length ys) capb, SV.func (Fn.func (42 : FuncId)) [] [], SV.int IntKind.i64 nb] (146 : TypeId)),
    Ent.mk (Loc.sl aob capb) (SObj.vecL (149 : TypeId) 2 encItI ys ((0 : Int), (0 : Int)))])) := by kernel_rfl


theorem qb_r2 (K : List Frm → Sy → Prop) (N : List Ent → SV → Prop) (J : Act → World → Prop) (u : Nat → Value) (ao : Option Addr) (cap : Nat) (bs : List Int) (ao' : Option Addr) (cap' : Nat) (ps : List Bool) (qa : Nat) (aoa : Option Addr) (capa : Nat) (xs : List (Int × Int)) (na : Int) (qb : Nat) (aob : Option Addr) (capb : Nat) (ys : List (Int × Int)) (nb : Int) (i : Int) : (run Try.prog qTI5 false [] K (retP Try.prog Try.f10.results.toList N) 1500 (frmR [J] (bodyOf Try.f10) 12) ⟨mkT u 129 0 [(0, .vec 0 ao bs.length cap), (1, .vec 1 ao' ps.length cap'), (4, .bool false), (5, .ptr 2 qa 0), (6, .ptr 4 qb 0), (7, .int .i64 i)], qbHeap ao cap bs ao' cap' ps qa aoa capa xs na qb aob capb ys nb⟩) = (
match decide (i < (↑(List.length ps) : Int)) with
| true =>
 (ao' = ao' ∧ cap' = cap' ∧ List.length ps = List.length ps ∧ (0 : Int) ≤ i ∧ i < (↑(List.length ps) : Int)) ∧
  (Addr.blkD ao' = Addr.blkD ao' ∧ Addr.offD ao' = Addr.offD ao' ∧ 1 = 1 ∧ Int.toNat i < List.length ps) ∧
   match List.getD ps (Int.toNat i) false with
   | true =>
    true = true ∧
     true = true ∧
      qa = qa ∧
       match (↑(List.length xs) : Int) == (0 : Int) with
       | true =>
        true = true ∧
         true = true ∧
          qb = qb ∧
           match (↑(List.length ys) : Int) == (0 : Int) with
           | true =>
            N
             [Ent.mk (Loc.sl ao cap) (SObj.roL 1 encI16 bs (0 : Int)), Ent.mk (Loc.sl ao' cap') (SObj.roL 1 encBool ps false),
              Ent.mk (Loc.blk qa) (SObj.cells [SV.vec 3 aoa (List.length xs) capa, SV.func (Fn.func (41 : FuncId)) [] [], SV.int IntKind.i64 na] (146 : TypeId)),
              Ent.mk (Loc.sl aoa capa) (SObj.vecL (149 : TypeId) 2 encItI xs ((0 : Int), (0 : Int))),
              Ent.mk (Loc.blk qb) (SObj.cells [SV.vec 5 aob (List.length ys) capb, SV.func (Fn.func (42 : FuncId)) [] [], SV.int IntKind.i64 nb] (146 : TypeId)),
              Ent.mk (Loc.sl aob capb) (SObj.vecL (149 : TypeId) 2 encItI ys ((0 : Int), (0 : Int)))]
             (SV.bool false)
           | false =>
            true = true ∧
             ∃ (xs_1 : List (Int × Int)),
              (Ent.mk (Loc.sl aob capb) (SObj.vecL (149 : TypeId) 2 encItI ys ((0 : Int), (0 : Int))) =
               Ent.mk (Loc.sl aob capb) (SObj.vecL (149 : TypeId) 2 encItI xs_1 ((0 : Int), (0 : Int))) ∧
               qb = qb ∧ List.length ys = List.length xs_1 ∧ false = false) ∧
               (147 = (147 : TypeId) ∧ 0 < List.length xs_1 ∧ List.length xs_1 ≤ 2305843009213693952) ∧
                ∃ (bef : Int → Int → Bool),
                 RI (42 : FuncId) bef ∧
                  N
                   [Ent.mk (Loc.sl ao cap) (SObj.roL 1 encI16 bs (0 : Int)), Ent.mk (Loc.sl ao' cap') (SObj.roL 1 encBool ps false),
                    Ent.mk (Loc.blk qa) (SObj.cells [SV.vec 3 aoa (List.length xs) capa, SV.func (Fn.func (41 : FuncId)) [] [], SV.int IntKind.i64 na] (146 : TypeId)),
                    Ent.mk (Loc.sl aoa capa) (SObj.vecL (149 : TypeId) 2 encItI xs ((0 : Int), (0 : Int))),
                    Ent.mk (Loc.blk qb)
                     (SObj.cells
                      [SV.vec 5 aob (List.length (popL (lessI bef) ((0 : Int), (0 : Int)) xs_1)) capb, SV.func (Fn.func (42 : FuncId)) [] [], SV.int IntKind.i64 nb]
                      (146 : TypeId)),
                    Ent.mk (Loc.sl aob capb) (SObj.vecL (149 : TypeId) 2 encItI (popL (lessI bef) ((0 : Int), (0 : Int)) xs_1) ((0 : Int), (0 : Int)))]
                   (SV.bool false)
       | false =>
        true = true ∧
         ∃ (xs_1 : List (Int × Int)),
          (Ent.mk (Loc.sl aoa capa) (SObj.vecL (149 : TypeId) 2 encItI xs ((0 : Int), (0 : Int))) =
           Ent.mk (Loc.sl aoa capa) (SObj.vecL (149 : TypeId) 2 encItI xs_1 ((0 : Int), (0 : Int))) ∧
           qa = qa ∧ List.length xs = List.length xs_1 ∧ false = false) ∧
           (147 = (147 : TypeId) ∧ 0 < List.length xs_1 ∧ List.length xs_1 ≤ 2305843009213693952) ∧
            ∃ (bef : Int → Int → Bool),
             RI (41 : FuncId) bef ∧
              true = true ∧
               true = true ∧
                qb = qb ∧
                 match (↑(List.length ys) : Int) == (0 : Int) with
                 | true =>
                  N
                   [Ent.mk (Loc.sl ao cap) (SObj.roL 1 encI16 bs (0 : Int)), Ent.mk (Loc.sl ao' cap') (SObj.roL 1 encBool ps false),
                    Ent.mk (Loc.blk qa)
                     (SObj.cells
                      [SV.vec 3 aoa (List.length (popL (lessI bef) ((0 : Int), (0 : Int)) xs_1)) capa, SV.func (Fn.func (41 : FuncId)) [] [], SV.int IntKind.i64 na]
                      (146 : TypeId)),
                    Ent.mk (Loc.sl aoa capa) (SObj.vecL (149 : TypeId) 2 encItI (popL (lessI bef) ((0 : Int), (0 : Int)) xs_1) ((0 : Int), (0 : Int))),
                    Ent.mk (Loc.blk qb) (SObj.cells [SV.vec 5 aob (List.length ys) capb, SV.func (Fn.func (42 : FuncId)) [] [], SV.int IntKind.i64 nb] (146 : TypeId)),
                    Ent.mk (Loc.sl aob capb) (SObj.vecL (149 : TypeId) 2 encItI ys ((0 : Int), (0 : Int)))]
                   (SV.bool false)
                 | false =>
                  true = true ∧
                   ∃ (xs : List (Int × Int)),
                    (Ent.mk (Loc.sl aob capb) (SObj.vecL (149 : TypeId) 2 encItI ys ((0 : Int), (0 : Int))) =
                     Ent.mk (Loc.sl aob capb) (SObj.vecL (149 : TypeId) 2 encItI xs ((0 : Int), (0 : Int))) ∧
                     qb = qb ∧ List.length ys = List.length xs ∧ false = false) ∧
                     (147 = (147 : TypeId) ∧ 0 < List.length xs ∧ List.length xs ≤ 2305843009213693952) ∧
                      ∃ (bef_1 : Int → Int → Bool),
                       RI (42 : FuncId) bef_1 ∧
                        match
                         (List.getD xs_1 0 ((0 : Int), (0 : Int))).1 != IntKind.wrap IntKind.i64 ((0 : Int) - (List.getD xs 0 ((0 : Int), (0 : Int))).1) with
                        | true =>
                         N
                          [Ent.mk (Loc.sl ao cap) (SObj.roL 1 encI16 bs (0 : Int)), Ent.mk (Loc.sl ao' cap') (SObj.roL 1 encBool ps false),
                           Ent.mk (Loc.blk qa)
                            (SObj.cells
                             [SV.vec 3 aoa (List.length (popL (lessI bef) ((0 : Int), (0 : Int)) xs_1)) capa, SV.func (Fn.func (41 : FuncId)) [] [],
                              SV.int IntKind.i64 na]
                             (146 : TypeId)),
                           Ent.mk (Loc.sl aoa capa) (SObj.vecL (149 : TypeId) 2 encItI (popL (lessI bef) ((0 : Int), (0 : Int)) xs_1) ((0 : Int), (0 : Int))),
                           Ent.mk (Loc.blk qb)
                            (SObj.cells
                             [SV.vec 5 aob (List.length (popL (lessI bef_1) ((0 : Int), (0 : Int)) xs)) capb, SV.func (Fn.func (42 : FuncId)) [] [],
                              SV.int IntKind.i64 nb]
                             (146 : TypeId)),
                           Ent.mk (Loc.sl aob capb) (SObj.vecL (149 : TypeId) 2 encItI (popL (lessI bef_1) ((0 : Int), (0 : Int)) xs) ((0 : Int), (0 : Int)))]
                          (SV.bool false)
                        | false =>
                         K (Frm.loop J :: Frm.blk 0 :: frm [] (bodyOf Try.f10) [1, 1, 1, 1, 1, 1] [])
                          (Sy.mk
                           [SV.vec 0 ao (List.length bs) cap, SV.vec 1 ao' (List.length ps) cap', SV.raw (u 2), SV.raw (u 3), SV.bool false,
                            SV.ptr 2 qa 0, SV.ptr 4 qb 0, SV.int IntKind.i64 (IntKind.wrap IntKind.i64 (i + (1 : Int))),
                            SV.int IntKind.i64 (List.getD xs_1 0 ((0 : Int), (0 : Int))).1, SV.int IntKind.i64 (0 : Int),
                            SV.int IntKind.i64 (List.getD xs 0 ((0 : Int), (0 : Int))).1, SV.int IntKind.i64 (0 : Int), SV.raw (u 12),
                            SV.raw (u 13), SV.raw (u 14), SV.raw (u 15), SV.raw (u 16), SV.raw (u 17), SV.raw (u 18),
                            SV.raw (u 19), SV.raw (u 20), SV.raw (u 21), SV.raw (u 22), SV.raw (u 23), SV.raw (u 24),
                            SV.raw (u 25), SV.raw (u 26), SV.raw (u 27), SV.raw (u 28), SV.raw (u 29), SV.int IntKind.i64 i,
                            SV.int IntKind.i64 (IntKind.wrap IntKind.i64 (i + (1 : Int))), SV.raw (u 32), SV.raw (u 33), SV.raw (u 34),
                            SV.raw (u 35), SV.raw (u 36), SV.raw (u 37), SV.raw (u 38), SV.raw (u 39), SV.raw (u 40),
                            SV.raw (u 41), SV.raw (u 42), SV.raw (u 43), SV.raw (u 44), SV.raw (u 45), SV.raw (u 46),
                            SV.int IntKind.i64 i, SV.vec 1 ao' (List.length ps) cap', SV.int IntKind.i64 (↑(List.length ps) : Int),
                            SV.bool (decide (i < (↑(List.length ps) : Int))), SV.bool true, SV.vec 1 ao' (List.length ps) cap', SV.int IntKind.i64 i,
                            SV.eptr 1 (Addr.blkD ao') (Addr.offD ao') 1 (Int.toNat i) 0, SV.bool (List.getD ps (Int.toNat i) false), SV.bool true,
                            SV.tuple [SV.int IntKind.i64 (List.getD xs_1 0 ((0 : Int), (0 : Int))).1, SV.int IntKind.i64 (0 : Int)], SV.ptr 2 qa 0,
                            SV.tuple [SV.int IntKind.i64 (List.getD xs_1 0 ((0 : Int), (0 : Int))).1, SV.int IntKind.i64 (0 : Int)],
                            SV.int IntKind.i64 (List.getD xs_1 0 ((0 : Int), (0 : Int))).1, SV.int IntKind.i64 (0 : Int),
                            SV.tuple [SV.int IntKind.i64 (List.getD xs 0 ((0 : Int), (0 : Int))).1, SV.int IntKind.i64 (0 : Int)], SV.ptr 4 qb 0,
                            SV.tuple [SV.int IntKind.i64 (List.getD xs 0 ((0 : Int), (0 : Int))).1, SV.int IntKind.i64 (0 : Int)],
                            SV.int IntKind.i64 (List.getD xs 0 ((0 : Int), (0 : Int))).1, SV.int IntKind.i64 (0 : Int), SV.int IntKind.i64 (0 : Int), SV.bool false,
                            SV.bool false, SV.int IntKind.i64 (0 : Int), SV.bool false, SV.bool false, SV.bool false,
                            SV.int IntKind.i64 (List.getD xs_1 0 ((0 : Int), (0 : Int))).1, SV.int IntKind.i64 (List.getD xs 0 ((0 : Int), (0 : Int))).1,
                            SV.int IntKind.i64 (IntKind.wrap IntKind.i64 ((0 : Int) - (List.getD xs 0 ((0 : Int), (0 : Int))).1)),
                            SV.bool
                             ((List.getD xs_1 0 ((0 : Int), (0 : Int))).1 !=
                              IntKind.wrap IntKind.i64 ((0 : Int) - (List.getD xs 0 ((0 : Int), (0 : Int))).1)),
                            SV.bool false, SV.raw (u 79), SV.raw (u 80), SV.raw (u 81), SV.raw (u 82), SV.raw (u 83),
                            SV.raw (u 84), SV.raw (u 85), SV.raw (u 86), SV.raw (u 87), SV.raw (u 88), SV.raw (u 89),
                            SV.raw (u 90), SV.raw (u 91), SV.raw (u 92), SV.raw (u 93), SV.raw (u 94), SV.raw (u 95),
                            SV.raw (u 96), SV.raw (u 97), SV.raw (u 98), SV.raw (u 99), SV.raw (u 100), SV.raw (u 101),
                            SV.raw (u 102), SV.raw (u 103), SV.raw (u 104), SV.raw (u 105), SV.raw (u 106), SV.raw (u 107),
                            SV.raw (u 108), SV.raw (u 109), SV.raw (u 110), SV.raw (u 111), SV.raw (u 112), SV.raw (u 113),
                            SV.raw (u 114), SV.raw (u 115), SV.raw (u 116), SV.raw (u 117), SV.raw (u 118), SV.raw (u 119),
                            SV.raw (u 120), SV.raw (u 121), SV.raw (u 122), SV.raw (u 123), SV.raw (u 124), SV.raw (u 125),
                            SV.raw (u 126), SV.raw (u 127), SV.raw (u 128)]
                           [Ent.mk (Loc.sl ao cap) (SObj.roL 1 encI16 bs (0 : Int)), Ent.mk (Loc.sl ao' cap') (SObj.roL 1 encBool ps false),
                            Ent.mk (Loc.blk qa)
                             (SObj.cells
                              [SV.vec 3 aoa (List.length (popL (lessI bef) ((0 : Int), (0 : Int)) xs_1)) capa, SV.func (Fn.func (41 : FuncId)) [] [],
                               SV.int IntKind.i64 na]
                              (146 : TypeId)),
                            Ent.mk (Loc.sl aoa capa) (SObj.vecL (149 : TypeId) 2 encItI (popL (lessI bef) ((0 : Int), (0 : Int)) xs_1) ((0 : Int), (0 : Int))),
                            Ent.mk (Loc.blk qb)
                             (SObj.cells
                              [SV.vec 5 aob (List.length (popL (lessI bef_1) ((0 : Int), (0 : Int)) xs)) capb, SV.func (Fn.func (42 : FuncId)) [] [],
                               SV.int IntKind.i64 nb]
                              (146 : TypeId)),
                            Ent.mk (Loc.sl aob capb) (SObj.vecL (149 : TypeId) 2 encItI (popL (lessI bef_1) ((0 : Int), (0 : Int)) xs) ((0 : Int), (0 : Int)))])
   | false =>
    K (Frm.loop J :: Frm.blk 0 :: frm [] (bodyOf Try.f10) [1, 1, 1, 1, 1, 1] [])
     (Sy.mk
      [SV.vec 0 ao (List.length bs) cap, SV.vec 1 ao' (List.length ps) cap', SV.raw (u 2), SV.raw (u 3), SV.bool false, SV.ptr 2 qa 0,
       SV.ptr 4 qb 0, SV.int IntKind.i64 (IntKind.wrap IntKind.i64 (i + (1 : Int))), SV.raw (u 8), SV.raw (u 9), SV.raw (u 10), SV.raw (u 11),
       SV.raw (u 12), SV.raw (u 13), SV.raw (u 14), SV.raw (u 15), SV.raw (u 16), SV.raw (u 17), SV.raw (u 18), SV.raw (u 19),
       SV.raw (u 20), SV.raw (u 21), SV.raw (u 22), SV.raw (u 23), SV.raw (u 24), SV.raw (u 25), SV.raw (u 26), SV.raw (u 27),
       SV.raw (u 28), SV.raw (u 29), SV.int IntKind.i64 i, SV.int IntKind.i64 (IntKind.wrap IntKind.i64 (i + (1 : Int))), SV.raw (u 32), SV.raw (u 33),
       SV.raw (u 34), SV.raw (u 35), SV.raw (u 36), SV.raw (u 37), SV.raw (u 38), SV.raw (u 39), SV.raw (u 40), SV.raw (u 41),
       SV.raw (u 42), SV.raw (u 43), SV.raw (u 44), SV.raw (u 45), SV.raw (u 46), SV.int IntKind.i64 i, SV.vec 1 ao' (List.length ps) cap',
       SV.int IntKind.i64 (↑(List.length ps) : Int), SV.bool (decide (i < (↑(List.length ps) : Int))), SV.bool true, SV.vec 1 ao' (List.length ps) cap', SV.int IntKind.i64 i,
       SV.eptr 1 (Addr.blkD ao') (Addr.offD ao') 1 (Int.toNat i) 0, SV.bool (List.getD ps (Int.toNat i) false), SV.bool false, SV.raw (u 57),
       SV.raw (u 58), SV.raw (u 59), SV.raw (u 60), SV.raw (u 61), SV.raw (u 62), SV.raw (u 63), SV.raw (u 64), SV.raw (u 65),
       SV.raw (u 66), SV.raw (u 67), SV.raw (u 68), SV.raw (u 69), SV.raw (u 70), SV.raw (u 71), SV.raw (u 72), SV.raw (u 73),
       SV.raw (u 74), SV.raw (u 75), SV.raw (u 76), SV.raw (u 77), SV.raw (u 78), SV.raw (u 79), SV.raw (u 80), SV.raw (u 81),
       SV.raw (u 82), SV.raw (u 83), SV.raw (u 84), SV.raw (u 85), SV.raw (u 86), SV.raw (u 87), SV.raw (u 88), SV.raw (u 89),
       SV.raw (u 90), SV.raw (u 91), SV.raw (u 92), SV.raw (u 93), SV.raw (u 94), SV.raw (u 95), SV.raw (u 96), SV.raw (u 97),
       SV.raw (u 98), SV.raw (u 99), SV.raw (u 100), SV.raw (u 101), SV.raw (u 102), SV.raw (u 103), SV.raw (u 104),
       SV.raw (u 105), SV.raw (u 106), SV.raw (u 107), SV.raw (u 108), SV.raw (u 109), SV.raw (u 110), SV.raw (u 111),
       SV.raw (u 112), SV.raw (u 113), SV.raw (u 114), SV.raw (u 115), SV.raw (u 116), SV.raw (u 117), SV.raw (u 118),
       SV.raw (u 119), SV.raw (u 120), SV.raw (u 121), SV.raw (u 122), SV.raw (u 123), SV.raw (u 124), SV.raw (u 125),
       SV.raw (u 126), SV.raw (u 127), SV.raw (u 128)]
      [Ent.mk (Loc.sl ao cap) (SObj.roL 1 encI16 bs (0 : Int)), Ent.mk (Loc.sl ao' cap') (SObj.roL 1 encBool ps false),
       Ent.mk (Loc.blk qa) (SObj.cells [SV.vec 3 aoa (List.length xs) capa, SV.func (Fn.func (41 : FuncId)) [] [], SV.int IntKind.i64 na] (146 : TypeId)),
       Ent.mk (Loc.sl aoa capa) (SObj.vecL (149 : TypeId) 2 encItI xs ((0 : Int), (0 : Int))),
       Ent.mk (Loc.blk qb) (SObj.cells [SV.vec 5 aob (List.length ys) capb, SV.func (Fn.func (42 : FuncId)) [] [], SV.int IntKind.i64 nb] (146 : TypeId)),
       Ent.mk (Loc.sl aob capb) (SObj.vecL (149 : TypeId) 2 encItI ys ((0 : Int), (0 : Int)))])
| false =>
 K (Frm.loop J :: Frm.blk 0 :: frm [] (bodyOf Try.f10) [1, 1, 1, 1, 1, 1] [])
  (Sy.mk
   [SV.vec 0 ao (List.length bs) cap, SV.vec 1 ao' (List.length ps) cap', SV.raw (u 2), SV.raw (u 3), SV.bool false, SV.ptr 2 qa 0,
    SV.ptr 4 qb 0, SV.int IntKind.i64 (IntKind.wrap IntKind.i64 (i + (1 : Int))), SV.raw (u 8), SV.raw (u 9), SV.raw (u 10), SV.raw (u 11),
    SV.raw (u 12), SV.raw (u 13), SV.raw (u 14), SV.raw (u 15), SV.raw (u 16), SV.raw (u 17), SV.raw (u 18), SV.raw (u 19),
    SV.raw (u 20), SV.raw (u 21), SV.raw (u 22), SV.raw (u 23), SV.raw (u 24), SV.raw (u 25), SV.raw (u 26), SV.raw (u 27),
    SV.raw (u 28), SV.raw (u 29), SV.int IntKind.i64 i, SV.int IntKind.i64 (IntKind.wrap IntKind.i64 (i + (1 : Int))), SV.raw (u 32), SV.raw (u 33),
    SV.raw (u 34), SV.raw (u 35), SV.raw (u 36), SV.raw (u 37), SV.raw (u 38), SV.raw (u 39), SV.raw (u 40), SV.raw (u 41),
    SV.raw (u 42), SV.raw (u 43), SV.raw (u 44), SV.raw (u 45), SV.raw (u 46), SV.int IntKind.i64 i, SV.vec 1 ao' (List.length ps) cap',
    SV.int IntKind.i64 (↑(List.length ps) : Int), SV.bool (decide (i < (↑(List.length ps) : Int))), SV.bool false, SV.raw (Value.tuple #[]), SV.raw (Value.tuple #[]), SV.raw (Value.tuple #[]),
    SV.raw (Value.tuple #[]), SV.bool false, SV.raw (u 57), SV.raw (u 58), SV.raw (u 59), SV.raw (u 60), SV.raw (u 61), SV.raw (u 62),
    SV.raw (u 63), SV.raw (u 64), SV.raw (u 65), SV.raw (u 66), SV.raw (u 67), SV.raw (u 68), SV.raw (u 69), SV.raw (u 70),
    SV.raw (u 71), SV.raw (u 72), SV.raw (u 73), SV.raw (u 74), SV.raw (u 75), SV.raw (u 76), SV.raw (u 77), SV.raw (u 78),
    SV.raw (u 79), SV.raw (u 80), SV.raw (u 81), SV.raw (u 82), SV.raw (u 83), SV.raw (u 84), SV.raw (u 85), SV.raw (u 86),
    SV.raw (u 87), SV.raw (u 88), SV.raw (u 89), SV.raw (u 90), SV.raw (u 91), SV.raw (u 92), SV.raw (u 93), SV.raw (u 94),
    SV.raw (u 95), SV.raw (u 96), SV.raw (u 97), SV.raw (u 98), SV.raw (u 99), SV.raw (u 100), SV.raw (u 101), SV.raw (u 102),
    SV.raw (u 103), SV.raw (u 104), SV.raw (u 105), SV.raw (u 106), SV.raw (u 107), SV.raw (u 108), SV.raw (u 109), SV.raw (u 110),
    SV.raw (u 111), SV.raw (u 112), SV.raw (u 113), SV.raw (u 114), SV.raw (u 115), SV.raw (u 116), SV.raw (u 117), SV.raw (u 118),
    SV.raw (u 119), SV.raw (u 120), SV.raw (u 121), SV.raw (u 122), SV.raw (u 123), SV.raw (u 124), SV.raw (u 125), SV.raw (u 126),
    SV.raw (u 127), SV.raw (u 128)]
   [Ent.mk (Loc.sl ao cap) (SObj.roL 1 encI16 bs (0 : Int)), Ent.mk (Loc.sl ao' cap') (SObj.roL 1 encBool ps false),
    Ent.mk (Loc.blk qa) (SObj.cells [SV.vec 3 aoa (List.length xs) capa, SV.func (Fn.func (41 : FuncId)) [] [], SV.int IntKind.i64 na] (146 : TypeId)),
    Ent.mk (Loc.sl aoa capa) (SObj.vecL (149 : TypeId) 2 encItI xs ((0 : Int), (0 : Int))),
    Ent.mk (Loc.blk qb) (SObj.cells [SV.vec 5 aob (List.length ys) capb, SV.func (Fn.func (42 : FuncId)) [] [], SV.int IntKind.i64 nb] (146 : TypeId)),
    Ent.mk (Loc.sl aob capb) (SObj.vecL (149 : TypeId) 2 encItI ys ((0 : Int), (0 : Int)))])) := by kernel_rfl


theorem qb_l2 (K : List Frm → Sy → Prop) (N : List Ent → SV → Prop) (J : Act → World → Prop) (u : Nat → Value) (ao : Option Addr) (cap : Nat) (bs : List Int) (ao' : Option Addr) (cap' : Nat) (ps : List Bool) (qa : Nat) (aoa : Option Addr) (capa : Nat) (xs : List (Int × Int)) (na : Int) (qb : Nat) (aob : Option Addr) (capb : Nat) (ys : List (Int × Int)) (nb : Int) (last : Int) (some : Bool) : (run Try.prog qTI5 false [] K (retP Try.prog Try.f10.results.toList N) 1500 (frm [J] (bodyOf Try.f10) [1, 1, 1, 1, 1, 1, 1, 0, 0, 0] []) ⟨mkT u 129 0 [(4, .bool false), (5, .ptr 2 qa 0), (6, .ptr 4 qb 0), (12, .int .i64 last), (13, .bool some)], qbHeap ao cap bs ao' cap' ps qa aoa capa xs na qb aob capb ys nb⟩) = (
true = true ∧
 qa = qa ∧
  match decide ((↑(List.length xs) : Int) > (0 : Int)) with
  | true =>
   true = true ∧
    qa = qa ∧
     true = true ∧
      true = true ∧
       qa = qa ∧
        match (↑(List.length xs) : Int) == (0 : Int) with
        | true =>
         true = true ∧
          true = true ∧
           qb = qb ∧
            match (↑(List.length ys) : Int) == (0 : Int) with
            | true =>
             true = true ∧
              true = true ∧
               true = true ∧
                N
                 [Ent.mk (Loc.sl ao cap) (SObj.roL 1 encI16 bs (0 : Int)), Ent.mk (Loc.sl ao' cap') (SObj.roL 1 encBool ps false),
                  Ent.mk (Loc.blk qa) (SObj.cells [SV.vec 3 aoa (List.length xs) capa, SV.func (Fn.func (41 : FuncId)) [] [], SV.int IntKind.i64 na] (146 : TypeId)),
                  Ent.mk (Loc.sl aoa capa) (SObj.vecL (149 : TypeId) 2 encItI xs ((0 : Int), (0 : Int))),
                  Ent.mk (Loc.blk qb) (SObj.cells [SV.vec 5 aob (List.length ys) capb, SV.func (Fn.func (42 : FuncId)) [] [], SV.int IntKind.i64 nb] (146 : TypeId)),
                  Ent.mk (Loc.sl aob capb) (SObj.vecL (149 : TypeId) 2 encItI ys ((0 : Int), (0 : Int)))]
                 (SV.bool false)
            | false =>
             true = true ∧
              ∃ (xs_1 : List (Int × Int)),
               (Ent.mk (Loc.sl aob capb) (SObj.vecL (149 : TypeId) 2 encItI ys ((0 : Int), (0 : Int))) =
                Ent.mk (Loc.sl aob capb) (SObj.vecL (149 : TypeId) 2 encItI xs_1 ((0 : Int), (0 : Int))) ∧
                qb = qb ∧ List.length ys = List.length xs_1 ∧ false = false) ∧
                (147 = (147 : TypeId) ∧ 0 < List.length xs_1 ∧ List.length xs_1 ≤ 2305843009213693952) ∧
                 ∃ (bef : Int → Int → Bool),
                  RI (42 : FuncId) bef ∧
                   true = true ∧
                    true = true ∧
                     true = true ∧
                      N
                       [Ent.mk (Loc.sl ao cap) (SObj.roL 1 encI16 bs (0 : Int)), Ent.mk (Loc.sl ao' cap') (SObj.roL 1 encBool ps false),
                        Ent.mk (Loc.blk qa)
                         (SObj.cells [SV.vec 3 aoa (List.length xs) capa, SV.func (Fn.func (41 : FuncId)) [] [], SV.int IntKind.i64 na] (146 : TypeId)),
                        Ent.mk (Loc.sl aoa capa) (SObj.vecL (149 : TypeId) 2 encItI xs ((0 : Int), (0 : Int))),
                        Ent.mk (Loc.blk qb)
                         (SObj.cells
                          [SV.vec 5 aob (List.length (popL (lessI bef) ((0 : Int), (0 : Int)) xs_1)) capb, SV.func (Fn.func (42 : FuncId)) [] [],
                           SV.int IntKind.i64 nb]
                          (146 : TypeId)),
                        Ent.mk (Loc.sl aob capb) (SObj.vecL (149 : TypeId) 2 encItI (popL (lessI bef) ((0 : Int), (0 : Int)) xs_1) ((0 : Int), (0 : Int)))]
                       (SV.bool false)
        | false =>
         true = true ∧
          ∃ (xs_1 : List (Int × Int)),
           (Ent.mk (Loc.sl aoa capa) (SObj.vecL (149 : TypeId) 2 encItI xs ((0 : Int), (0 : Int))) =
            Ent.mk (Loc.sl aoa capa) (SObj.vecL (149 : TypeId) 2 encItI xs_1 ((0 : Int), (0 : Int))) ∧
            qa = qa ∧ List.length xs = List.length xs_1 ∧ false = false) ∧
            (147 = (147 : TypeId) ∧ 0 < List.length xs_1 ∧ List.length xs_1 ≤ 2305843009213693952) ∧
             ∃ (bef : Int → Int → Bool),
              RI (41 : FuncId) bef ∧
               true = true ∧
                true = true ∧
                 qb = qb ∧
                  match (↑(List.length ys) : Int) == (0 : Int) with
                  | true =>
                   true = true ∧
                    true = true ∧
                     true = true ∧
                      N
                       [Ent.mk (Loc.sl ao cap) (SObj.roL 1 encI16 bs (0 : Int)), Ent.mk (Loc.sl ao' cap') (SObj.roL 1 encBool ps false),
                        Ent.mk (Loc.blk qa)
                         (SObj.cells
                          [SV.vec 3 aoa (List.length (popL (lessI bef) ((0 : Int), (0 : Int)) xs_1)) capa, SV.func (Fn.func (41 : FuncId)) [] [],
                           SV.int IntKind.i64 na]
                          (146 : TypeId)),
                        Ent.mk (Loc.sl aoa capa) (SObj.vecL (149 : TypeId) 2 encItI (popL (lessI bef) ((0 : Int), (0 : Int)) xs_1) ((0 : Int), (0 : Int))),
                        Ent.mk (Loc.blk qb)
                         (SObj.cells [SV.vec 5 aob (List.length ys) capb, SV.func (Fn.func (42 : FuncId)) [] [], SV.int IntKind.i64 nb] (146 : TypeId)),
                        Ent.mk (Loc.sl aob capb) (SObj.vecL (149 : TypeId) 2 encItI ys ((0 : Int), (0 : Int)))]
                       (SV.bool false)
                  | false =>
                   true = true ∧
                    ∃ (xs_2 : List (Int × Int)),
                     (Ent.mk (Loc.sl aob capb) (SObj.vecL (149 : TypeId) 2 encItI ys ((0 : Int), (0 : Int))) =
                      Ent.mk (Loc.sl aob capb) (SObj.vecL (149 : TypeId) 2 encItI xs_2 ((0 : Int), (0 : Int))) ∧
                      qb = qb ∧ List.length ys = List.length xs_2 ∧ false = false) ∧
                      (147 = (147 : TypeId) ∧ 0 < List.length xs_2 ∧ List.length xs_2 ≤ 2305843009213693952) ∧
                       ∃ (bef_1 : Int → Int → Bool),
                        RI (42 : FuncId) bef_1 ∧
                         match
                          (List.getD xs_1 0 ((0 : Int), (0 : Int))).1 !=
                           IntKind.wrap IntKind.i64 ((0 : Int) - (List.getD xs_2 0 ((0 : Int), (0 : Int))).1) with
                         | true =>
                          true = true ∧
                           true = true ∧
                            true = true ∧
                             N
                              [Ent.mk (Loc.sl ao cap) (SObj.roL 1 encI16 bs (0 : Int)), Ent.mk (Loc.sl ao' cap') (SObj.roL 1 encBool ps false),
                               Ent.mk (Loc.blk qa)
                                (SObj.cells
                                 [SV.vec 3 aoa (List.length (popL (lessI bef) ((0 : Int), (0 : Int)) xs_1)) capa, SV.func (Fn.func (41 : FuncId)) [] [],
                                  SV.int IntKind.i64 na]
                                 (146 : TypeId)),
                               Ent.mk (Loc.sl aoa capa)
                                (SObj.vecL (149 : TypeId) 2 encItI (popL (lessI bef) ((0 : Int), (0 : Int)) xs_1) ((0 : Int), (0 : Int))),
                               Ent.mk (Loc.blk qb)
                                (SObj.cells
                                 [SV.vec 5 aob (List.length (popL (lessI bef_1) ((0 : Int), (0 : Int)) xs_2)) capb, SV.func (Fn.func (42 : FuncId)) [] [],
                                  SV.int IntKind.i64 nb]
                                 (146 : TypeId)),
                               Ent.mk (Loc.sl aob capb)
                                (SObj.vecL (149 : TypeId) 2 encItI (popL (lessI bef_1) ((0 : Int), (0 : Int)) xs_2) ((0 : Int), (0 : Int)))]
                              (SV.bool false)
                         | false =>
                          match some with
                          | true =>
                           match decide ((List.getD xs_1 0 ((0 : Int), (0 : Int))).1 < last) with
                           | true =>
                            N
                             [Ent.mk (Loc.sl ao cap) (SObj.roL 1 encI16 bs (0 : Int)), Ent.mk (Loc.sl ao' cap') (SObj.roL 1 encBool ps false),
                              Ent.mk (Loc.blk qa)
                               (SObj.cells
                                [SV.vec 3 aoa (List.length (popL (lessI bef) ((0 : Int), (0 : Int)) xs_1)) capa, SV.func (Fn.func (41 : FuncId)) [] [],
                                 SV.int IntKind.i64 na]
                                (146 : TypeId)),
                              Ent.mk (Loc.sl aoa capa) (SObj.vecL (149 : TypeId) 2 encItI (popL (lessI bef) ((0 : Int), (0 : Int)) xs_1) ((0 : Int), (0 : Int))),
                              Ent.mk (Loc.blk qb)
                               (SObj.cells
                                [SV.vec 5 aob (List.length (popL (lessI bef_1) ((0 : Int), (0 : Int)) xs_2)) capb, SV.func (Fn.func (42 : FuncId)) [] [],
                                 SV.int IntKind.i64 nb]
                                (146 : TypeId)),
                              Ent.mk (Loc.sl aob capb)
                               (SObj.vecL (149 : TypeId) 2 encItI (popL (lessI bef_1) ((0 : Int), (0 : Int)) xs_2) ((0 : Int), (0 : Int)))]
                             (SV.bool false)
                           | false =>
                            true = true ∧
                             qa = qa ∧
                              match
                               (↑(List.length (popL (lessI bef) ((0 : Int), (0 : Int)) xs_1)) : Int) !=
                                IntKind.wrap IntKind.i64 ((↑(List.length xs) : Int) - (1 : Int)) with
                              | true =>
                               N
                                [Ent.mk (Loc.sl ao cap) (SObj.roL 1 encI16 bs (0 : Int)), Ent.mk (Loc.sl ao' cap') (SObj.roL 1 encBool ps false),
                                 Ent.mk (Loc.blk qa)
                                  (SObj.cells
                                   [SV.vec 3 aoa (List.length (popL (lessI bef) ((0 : Int), (0 : Int)) xs_1)) capa, SV.func (Fn.func (41 : FuncId)) [] [],
                                    SV.int IntKind.i64 na]
                                   (146 : TypeId)),
                                 Ent.mk (Loc.sl aoa capa)
                                  (SObj.vecL (149 : TypeId) 2 encItI (popL (lessI bef) ((0 : Int), (0 : Int)) xs_1) ((0 : Int), (0 : Int))),
                                 Ent.mk (Loc.blk qb)
                                  (SObj.cells
                                   [SV.vec 5 aob (List.length (popL (lessI bef_1) ((0 : Int), (0 : Int)) xs_2)) capb, SV.func (Fn.func (42 : FuncId)) [] [],
                                    SV.int IntKind.i64 nb]
                                   (146 : TypeId)),
                                 Ent.mk (Loc.sl aob capb)
                                  (SObj.vecL (149 : TypeId) 2 encItI (popL (lessI bef_1) ((0 : Int), (0 : Int)) xs_2) ((0 : Int), (0 : Int)))]
                                (SV.bool false)
                              | false =>
                               true = true ∧
                                qb = qb ∧
                                 match
                                  (↑(List.length (popL (lessI bef_1) ((0 : Int), (0 : Int)) xs_2)) : Int) !=
                                   IntKind.wrap IntKind.i64 ((↑(List.length xs) : Int) - (1 : Int)) with
                                 | true =>
                                  N
                                   [Ent.mk (Loc.sl ao cap) (SObj.roL 1 encI16 bs (0 : Int)), Ent.mk (Loc.sl ao' cap') (SObj.roL 1 encBool ps false),
                                    Ent.mk (Loc.blk qa)
                                     (SObj.cells
                                      [SV.vec 3 aoa (List.length (popL (lessI bef) ((0 : Int), (0 : Int)) xs_1)) capa,
                                       SV.func (Fn.func (41 : FuncId)) [] [], SV.int IntKind.i64 na]
                                      (146 : TypeId)),
                                    Ent.mk (Loc.sl aoa capa)
                                     (SObj.vecL (149 : TypeId) 2 encItI (popL (lessI bef) ((0 : Int), (0 : Int)) xs_1) ((0 : Int), (0 : Int))),
                                    Ent.mk (Loc.blk qb)
                                     (SObj.cells
                                      [SV.vec 5 aob (List.length (popL (lessI bef_1) ((0 : Int), (0 : Int)) xs_2)) capb,
                                       SV.func (Fn.func (42 : FuncId)) [] [], SV.int IntKind.i64 nb]
                                      (146 : TypeId)),
                                    Ent.mk (Loc.sl aob capb)
                                     (SObj.vecL (149 : TypeId) 2 encItI (popL (lessI bef_1) ((0 : Int), (0 : Int)) xs_2) ((0 : Int), (0 : Int)))]
                                   (SV.bool false)
                                 | false =>
                                  K
                                   (Frm.loop J ::
                                    Frm.blk 2 ::
                                     frm [] (bodyOf Try.f10) [1, 1, 1, 1, 1, 1, 1, 1] [])
                                   (Sy.mk
                                    [SV.raw (u 0), SV.raw (u 1), SV.raw (u 2), SV.raw (u 3), SV.bool false,
                                     SV.ptr 2 qa 0, SV.ptr 4 qb 0, SV.raw (u 7), SV.raw (u 8),
                                     SV.raw (u 9), SV.raw (u 10), SV.raw (u 11),
                                     SV.int IntKind.i64 (List.getD xs_1 0 ((0 : Int), (0 : Int))).1, SV.bool true,
                                     SV.int IntKind.i64 (↑(List.length xs) : Int), SV.int IntKind.i64 (List.getD xs_1 0 ((0 : Int), (0 : Int))).1,
                                     SV.int IntKind.i64 (0 : Int), SV.int IntKind.i64 (List.getD xs_2 0 ((0 : Int), (0 : Int))).1,
                                     SV.int IntKind.i64 (0 : Int), SV.raw (u 19), SV.raw (u 20), SV.raw (u 21), SV.raw (u 22),
                                     SV.raw (u 23), SV.raw (u 24), SV.raw (u 25), SV.raw (u 26), SV.raw (u 27),
                                     SV.raw (u 28), SV.raw (u 29), SV.raw (u 30), SV.raw (u 31), SV.raw (u 32),
                                     SV.raw (u 33), SV.raw (u 34), SV.raw (u 35), SV.raw (u 36), SV.raw (u 37),
                                     SV.raw (u 38), SV.raw (u 39), SV.raw (u 40), SV.raw (u 41), SV.raw (u 42),
                                     SV.raw (u 43), SV.raw (u 44), SV.raw (u 45), SV.raw (u 46), SV.raw (u 47),
                                     SV.raw (u 48), SV.raw (u 49), SV.raw (u 50), SV.raw (u 51), SV.raw (u 52),
                                     SV.raw (u 53), SV.raw (u 54), SV.raw (u 55), SV.raw (u 56), SV.raw (u 57),
                                     SV.raw (u 58), SV.raw (u 59), SV.raw (u 60), SV.raw (u 61), SV.raw (u 62),
                                     SV.raw (u 63), SV.raw (u 64), SV.raw (u 65), SV.raw (u 66), SV.raw (u 67),
                                     SV.raw (u 68), SV.raw (u 69), SV.raw (u 70), SV.raw (u 71), SV.raw (u 72),
                                     SV.raw (u 73), SV.raw (u 74), SV.raw (u 75), SV.raw (u 76), SV.raw (u 77),
                                     SV.raw (u 78), SV.ptr 2 qa 0, SV.int IntKind.i64 (↑(List.length xs) : Int), SV.bool true,
                                     SV.ptr 2 qa 0, SV.int IntKind.i64 (↑(List.length xs) : Int),
                                     SV.tuple [SV.int IntKind.i64 (List.getD xs_1 0 ((0 : Int), (0 : Int))).1, SV.int IntKind.i64 (0 : Int)],
                                     SV.ptr 2 qa 0,
                                     SV.tuple [SV.int IntKind.i64 (List.getD xs_1 0 ((0 : Int), (0 : Int))).1, SV.int IntKind.i64 (0 : Int)],
                                     SV.int IntKind.i64 (List.getD xs_1 0 ((0 : Int), (0 : Int))).1, SV.int IntKind.i64 (0 : Int),
                                     SV.tuple [SV.int IntKind.i64 (List.getD xs_2 0 ((0 : Int), (0 : Int))).1, SV.int IntKind.i64 (0 : Int)],
                                     SV.ptr 4 qb 0,
                                     SV.tuple [SV.int IntKind.i64 (List.getD xs_2 0 ((0 : Int), (0 : Int))).1, SV.int IntKind.i64 (0 : Int)],
                                     SV.int IntKind.i64 (List.getD xs_2 0 ((0 : Int), (0 : Int))).1, SV.int IntKind.i64 (0 : Int),
                                     SV.int IntKind.i64 (0 : Int), SV.bool false, SV.bool false, SV.int IntKind.i64 (0 : Int), SV.bool false, SV.bool false,
                                     SV.bool false, SV.int IntKind.i64 (List.getD xs_1 0 ((0 : Int), (0 : Int))).1,
                                     SV.int IntKind.i64 (List.getD xs_2 0 ((0 : Int), (0 : Int))).1,
                                     SV.int IntKind.i64 (IntKind.wrap IntKind.i64 ((0 : Int) - (List.getD xs_2 0 ((0 : Int), (0 : Int))).1)),
                                     SV.bool
                                      ((List.getD xs_1 0 ((0 : Int), (0 : Int))).1 !=
                                       IntKind.wrap IntKind.i64 ((0 : Int) - (List.getD xs_2 0 ((0 : Int), (0 : Int))).1)),
                                     SV.bool
                                      ((List.getD xs_1 0 ((0 : Int), (0 : Int))).1 !=
                                       IntKind.wrap IntKind.i64 ((0 : Int) - (List.getD xs_2 0 ((0 : Int), (0 : Int))).1)),
                                     SV.bool false, SV.bool some, SV.bool true, SV.int IntKind.i64 (List.getD xs_1 0 ((0 : Int), (0 : Int))).1,
                                     SV.int IntKind.i64 last, SV.bool (decide ((List.getD xs_1 0 ((0 : Int), (0 : Int))).1 < last)),
                                     SV.bool (decide ((List.getD xs_1 0 ((0 : Int), (0 : Int))).1 < last)),
                                     SV.bool (decide ((List.getD xs_1 0 ((0 : Int), (0 : Int))).1 < last)), SV.bool false, SV.ptr 2 qa 0,
                                     SV.int IntKind.i64 (↑(List.length (popL (lessI bef) ((0 : Int), (0 : Int)) xs_1)) : Int),
                                     SV.int IntKind.i64 (↑(List.length xs) : Int),
                                     SV.int IntKind.i64 (IntKind.wrap IntKind.i64 ((↑(List.length xs) : Int) - (1 : Int))),
                                     SV.bool
                                      ((↑(List.length (popL (lessI bef) ((0 : Int), (0 : Int)) xs_1)) : Int) !=
                                       IntKind.wrap IntKind.i64 ((↑(List.length xs) : Int) - (1 : Int))),
                                     SV.bool
                                      ((↑(List.length (popL (lessI bef) ((0 : Int), (0 : Int)) xs_1)) : Int) !=
                                       IntKind.wrap IntKind.i64 ((↑(List.length xs) : Int) - (1 : Int))),
                                     SV.bool false, SV.ptr 4 qb 0,
                                     SV.int IntKind.i64 (↑(List.length (popL (lessI bef_1) ((0 : Int), (0 : Int)) xs_2)) : Int),
                                     SV.int IntKind.i64 (↑(List.length xs) : Int),
                                     SV.int IntKind.i64 (IntKind.wrap IntKind.i64 ((↑(List.length xs) : Int) - (1 : Int))),
                                     SV.bool
                                      ((↑(List.length (popL (lessI bef_1) ((0 : Int), (0 : Int)) xs_2)) : Int) !=
                                       IntKind.wrap IntKind.i64 ((↑(List.length xs) : Int) - (1 : Int))),
                                     SV.bool false, SV.int IntKind.i64 (List.getD xs_1 0 ((0 : Int), (0 : Int))).1]
                                    [Ent.mk (Loc.sl ao cap) (SObj.roL 1 encI16 bs (0 : Int)),
                                     Ent.mk (Loc.sl ao' cap') (SObj.roL 1 encBool ps false),
                                     Ent.mk (Loc.blk qa)
                                      (SObj.cells
                                       [SV.vec 3 aoa (List.length (popL (lessI bef) ((0 : Int), (0 : Int)) xs_1)) capa,
                                        SV.func (Fn.func (41 : FuncId)) [] [], SV.int IntKind.i64 na]
                                       (146 : TypeId)),
                                     Ent.mk (Loc.sl aoa capa)
                                      (SObj.vecL (149 : TypeId) 2 encItI (popL (lessI bef) ((0 : Int), (0 : Int)) xs_1) ((0 : Int), (0 : Int))),
                                     Ent.mk (Loc.blk qb)
                                      (SObj.cells
                                       [SV.vec 5 aob (List.length (popL (lessI bef_1) ((0 : Int), (0 : Int)) xs_2)) capb,
                                        SV.func (Fn.func (42 : FuncId)) [] [], SV.int IntKind.i64 nb]
                                       (146 : TypeId)),
                                     Ent.mk (Loc.sl aob capb)
                                      (SObj.vecL (149 : TypeId) 2 encItI (popL (lessI bef_1) ((0 : Int), (0 : Int)) xs_2) ((0 : Int), (0 : Int)))])
                          | false =>
                           true = true ∧
                            qa = qa ∧
                             match
                              (↑(List.length (popL (lessI bef) ((0 : Int), (0 : Int)) xs_1)) : Int) !=
                               IntKind.wrap IntKind.i64 ((↑(List.length xs) : Int) - (1 : Int)) with
                             | true =>
                              N
                               [Ent.mk (Loc.sl ao cap) (SObj.roL 1 encI16 bs (0 : Int)), Ent.mk (Loc.sl ao' cap') (SObj.roL 1 encBool ps false),
                                Ent.mk (Loc.blk qa)
                                 (SObj.cells
                                  [SV.vec 3 aoa (List.length (popL (lessI bef) ((0 : Int), (0 : Int)) xs_1)) capa, SV.func (Fn.func (41 : FuncId)) [] [],
                                   SV.int IntKind.i64 na]
                                  (146 : TypeId)),
                                Ent.mk (Loc.sl aoa capa)
                                 (SObj.vecL (149 : TypeId) 2 encItI (popL (lessI bef) ((0 : Int), (0 : Int)) xs_1) ((0 : Int), (0 : Int))),
                                Ent.mk (Loc.blk qb)
                                 (SObj.cells
                                  [SV.vec 5 aob (List.length (popL (lessI bef_1) ((0 : Int), (0 : Int)) xs_2)) capb, SV.func (Fn.func (42 : FuncId)) [] [],
                                   SV.int IntKind.i64 nb]
                                  (146 : TypeId)),
                                Ent.mk (Loc.sl aob capb)
                                 (SObj.vecL (149 : TypeId) 2 encItI (popL (lessI bef_1) ((0 : Int), (0 : Int)) xs_2) ((0 : Int), (0 : Int)))]
                               (SV.bool false)
                             | false =>
                              true = true ∧
                               qb = qb ∧
                                match
                                 (↑(List.length (popL (lessI bef_1) ((0 : Int), (0 : Int)) xs_2)) : Int) !=
                                  IntKind.wrap IntKind.i64 ((↑(List.length xs) : Int) - (1 : Int)) with
                                | true =>
                                 N
                                  [Ent.mk (Loc.sl ao cap) (SObj.roL 1 encI16 bs (0 : Int)), Ent.mk (Loc.sl ao' cap') (SObj.roL 1 encBool ps false),
                                   Ent.mk (Loc.blk qa)
                                    (SObj.cells
                                     [SV.vec 3 aoa (List.length (popL (lessI bef) ((0 : Int), (0 : Int)) xs_1)) capa,
                                      SV.func (Fn.func (41 : FuncId)) [] [], SV.int IntKind.i64 na]
                                     (146 : TypeId)),
                                   Ent.mk (Loc.sl aoa capa)
                                    (SObj.vecL (149 : TypeId) 2 encItI (popL (lessI bef) ((0 : Int), (0 : Int)) xs_1) ((0 : Int), (0 : Int))),
                                   Ent.mk (Loc.blk qb)
                                    (SObj.cells
                                     [SV.vec 5 aob (List.length (popL (lessI bef_1) ((0 : Int), (0 : Int)) xs_2)) capb,
                                      SV.func (Fn.func (42 : FuncId)) [] [], SV.int IntKind.i64 nb]
                                     (146 : TypeId)),
                                   Ent.mk (Loc.sl aob capb)
                                    (SObj.vecL (149 : TypeId) 2 encItI (popL (lessI bef_1) ((0 : Int), (0 : Int)) xs_2) ((0 : Int), (0 : Int)))]
                                  (SV.bool false)
                                | false =>
                                 K
                                  (Frm.loop J ::
                                   Frm.blk 2 ::
                                    frm [] (bodyOf Try.f10) [1, 1, 1, 1, 1, 1, 1, 1] [])
                                  (Sy.mk
                                   [SV.raw (u 0), SV.raw (u 1), SV.raw (u 2), SV.raw (u 3), SV.bool false,
                                    SV.ptr 2 qa 0, SV.ptr 4 qb 0, SV.raw (u 7), SV.raw (u 8), SV.raw (u 9),
                                    SV.raw (u 10), SV.raw (u 11), SV.int IntKind.i64 (List.getD xs_1 0 ((0 : Int), (0 : Int))).1,
                                    SV.bool true, SV.int IntKind.i64 (↑(List.length xs) : Int),
                                    SV.int IntKind.i64 (List.getD xs_1 0 ((0 : Int), (0 : Int))).1, SV.int IntKind.i64 (0 : Int),
                                    SV.int IntKind.i64 (List.getD xs_2 0 ((0 : Int), (0 : Int))).1, SV.int IntKind.i64 (0 : Int), SV.raw (u 19),
                                    SV.raw (u 20), SV.raw (u 21), SV.raw (u 22), SV.raw (u 23), SV.raw (u 24),
                                    SV.raw (u 25), SV.raw (u 26), SV.raw (u 27), SV.raw (u 28), SV.raw (u 29),
                                    SV.raw (u 30), SV.raw (u 31), SV.raw (u 32), SV.raw (u 33), SV.raw (u 34),
                                    SV.raw (u 35), SV.raw (u 36), SV.raw (u 37), SV.raw (u 38), SV.raw (u 39),
                                    SV.raw (u 40), SV.raw (u 41), SV.raw (u 42), SV.raw (u 43), SV.raw (u 44),
                                    SV.raw (u 45), SV.raw (u 46), SV.raw (u 47), SV.raw (u 48), SV.raw (u 49),
                                    SV.raw (u 50), SV.raw (u 51), SV.raw (u 52), SV.raw (u 53), SV.raw (u 54),
                                    SV.raw (u 55), SV.raw (u 56), SV.raw (u 57), SV.raw (u 58), SV.raw (u 59),
                                    SV.raw (u 60), SV.raw (u 61), SV.raw (u 62), SV.raw (u 63), SV.raw (u 64),
                                    SV.raw (u 65), SV.raw (u 66), SV.raw (u 67), SV.raw (u 68), SV.raw (u 69),
                                    SV.raw (u 70), SV.raw (u 71), SV.raw (u 72), SV.raw (u 73), SV.raw (u 74),
                                    SV.raw (u 75), SV.raw (u 76), SV.raw (u 77), SV.raw (u 78), SV.ptr 2 qa 0,
                                    SV.int IntKind.i64 (↑(List.length xs) : Int), SV.bool true, SV.ptr 2 qa 0,
                                    SV.int IntKind.i64 (↑(List.length xs) : Int),
                                    SV.tuple [SV.int IntKind.i64 (List.getD xs_1 0 ((0 : Int), (0 : Int))).1, SV.int IntKind.i64 (0 : Int)],
                                    SV.ptr 2 qa 0,
                                    SV.tuple [SV.int IntKind.i64 (List.getD xs_1 0 ((0 : Int), (0 : Int))).1, SV.int IntKind.i64 (0 : Int)],
                                    SV.int IntKind.i64 (List.getD xs_1 0 ((0 : Int), (0 : Int))).1, SV.int IntKind.i64 (0 : Int),
                                    SV.tuple [SV.int IntKind.i64 (List.getD xs_2 0 ((0 : Int), (0 : Int))).1, SV.int IntKind.i64 (0 : Int)],
                                    SV.ptr 4 qb 0,
                                    SV.tuple [SV.int IntKind.i64 (List.getD xs_2 0 ((0 : Int), (0 : Int))).1, SV.int IntKind.i64 (0 : Int)],
                                    SV.int IntKind.i64 (List.getD xs_2 0 ((0 : Int), (0 : Int))).1, SV.int IntKind.i64 (0 : Int),
                                    SV.int IntKind.i64 (0 : Int), SV.bool false, SV.bool false, SV.int IntKind.i64 (0 : Int), SV.bool false, SV.bool false,
                                    SV.bool false, SV.int IntKind.i64 (List.getD xs_1 0 ((0 : Int), (0 : Int))).1,
                                    SV.int IntKind.i64 (List.getD xs_2 0 ((0 : Int), (0 : Int))).1,
                                    SV.int IntKind.i64 (IntKind.wrap IntKind.i64 ((0 : Int) - (List.getD xs_2 0 ((0 : Int), (0 : Int))).1)),
                                    SV.bool
                                     ((List.getD xs_1 0 ((0 : Int), (0 : Int))).1 !=
                                      IntKind.wrap IntKind.i64 ((0 : Int) - (List.getD xs_2 0 ((0 : Int), (0 : Int))).1)),
                                    SV.bool
                                     ((List.getD xs_1 0 ((0 : Int), (0 : Int))).1 !=
                                      IntKind.wrap IntKind.i64 ((0 : Int) - (List.getD xs_2 0 ((0 : Int), (0 : Int))).1)),
                                    SV.bool false, SV.bool some, SV.bool false, SV.raw (Value.tuple #[]), SV.raw (Value.tuple #[]), SV.raw (Value.tuple #[]),
                                    SV.bool false, SV.bool false, SV.bool false, SV.ptr 2 qa 0,
                                    SV.int IntKind.i64 (↑(List.length (popL (lessI bef) ((0 : Int), (0 : Int)) xs_1)) : Int),
                                    SV.int IntKind.i64 (↑(List.length xs) : Int),
                                    SV.int IntKind.i64 (IntKind.wrap IntKind.i64 ((↑(List.length xs) : Int) - (1 : Int))),
                                    SV.bool
                                     ((↑(List.length (popL (lessI bef) ((0 : Int), (0 : Int)) xs_1)) : Int) !=
                                      IntKind.wrap IntKind.i64 ((↑(List.length xs) : Int) - (1 : Int))),
                                    SV.bool
                                     ((↑(List.length (popL (lessI bef) ((0 : Int), (0 : Int)) xs_1)) : Int) !=
                                      IntKind.wrap IntKind.i64 ((↑(List.length xs) : Int) - (1 : Int))),
                                    SV.bool false, SV.ptr 4 qb 0,
                                    SV.int IntKind.i64 (↑(List.length (popL (lessI bef_1) ((0 : Int), (0 : Int)) xs_2)) : Int),
                                    SV.int IntKind.i64 (↑(List.length xs) : Int),
                                    SV.int IntKind.i64 (IntKind.wrap IntKind.i64 ((↑(List.length xs) : Int) - (1 : Int))),
                                    SV.bool
                                     ((↑(List.length (popL (lessI bef_1) ((0 : Int), (0 : Int)) xs_2)) : Int) !=
                                      IntKind.wrap IntKind.i64 ((↑(List.length xs) : Int) - (1 : Int))),
                                    SV.bool false, SV.int IntKind.i64 (List.getD xs_1 0 ((0 : Int), (0 : Int))).1]
                                   [Ent.mk (Loc.sl ao cap) (SObj.roL 1 encI16 bs (0 : Int)), Ent.mk (Loc.sl ao' cap') (SObj.roL 1 encBool ps false),
                                    Ent.mk (Loc.blk qa)
                                     (SObj.cells
                                      [SV.vec 3 aoa (List.length (popL (lessI bef) ((0 : Int), (0 : Int)) xs_1)) capa,
                                       SV.func (Fn.func (41 : FuncId)) [] [], SV.int IntKind.i64 na]
                                      (146 : TypeId)),
                                    Ent.mk (Loc.sl aoa capa)
                                     (SObj.vecL (149 : TypeId) 2 encItI (popL (lessI bef) ((0 : Int), (0 : Int)) xs_1) ((0 : Int), (0 : Int))),
                                    Ent.mk (Loc.blk qb)
                                     (SObj.cells
                                      [SV.vec 5 aob (List.length (popL (lessI bef_1) ((0 : Int), (0 : Int)) xs_2)) capb,
                                       SV.func (Fn.func (42 : FuncId)) [] [], SV.int IntKind.i64 nb]
                                      (146 : TypeId)),
                                    Ent.mk (Loc.sl aob capb)
                                     (SObj.vecL (149 : TypeId) 2 encItI (popL (lessI bef_1) ((0 : Int), (0 : Int)) xs_2) ((0 : Int), (0 : Int)))])
  | false =>
   N
    [Ent.mk (Loc.sl ao cap) (SObj.roL 1 encI16 bs (0 : Int)), Ent.mk (Loc.sl ao' cap') (SObj.roL 1 encBool ps false),
     Ent.mk (Loc.blk qa) (SObj.cells [SV.vec 3 aoa (List.length xs) capa, SV.func (Fn.func (41 : FuncId)) [] [], SV.int IntKind.i64 na] (146 : TypeId)),
     Ent.mk (Loc.sl aoa capa) (SObj.vecL (149 : TypeId) 2 encItI xs ((0 : Int), (0 : Int))),
     Ent.mk (Loc.blk qb) (SObj.cells [SV.vec 5 aob (List.length ys) capb, SV.func (Fn.func (42 : FuncId)) [] [], SV.int IntKind.i64 nb] (146 : TypeId)),
     Ent.mk (Loc.sl aob capb) (SObj.vecL (149 : TypeId) 2 encItI ys ((0 : Int), (0 : Int)))]
    (SV.bool true)) := by kernel_rfl
end Go.Proofs.Ytjnkfgigpapeaaa
