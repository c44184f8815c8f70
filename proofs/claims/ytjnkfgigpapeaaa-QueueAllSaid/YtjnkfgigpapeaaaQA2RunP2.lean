import Derived.Test.YtjnkfgigpapeaaaQAC
import Derived.Test.YtjnkfgigpapeaaaTab
namespace Go.Proofs.Ytjnkfgigpapeaaa
set_option linter.unusedVariables false
open Go Go.RowKit
set_option maxHeartbeats 0
set_option maxRecDepth 100000
set_option linter.unusedVariables false
set_option maxRecDepth 100000

theorem qa_l3 (K : List Frm → Sy → Prop) (N : List Ent → SV → Prop) (J : Act → World → Prop) (u : Nat → Value) (ao : Option Addr) (cap : Nat) (bs : List Int) (ao' : Option Addr) (cap' : Nat) (ss : List Int) (bl q : Nat) (aoq : Option Addr) (capq : Nat) (xs : List (Int × Int)) (na : Int) (b7 : Nat) (aof : Option Addr) (capf : Nat) (b8 : Nat) (o : Bool) (i : Int) (zs : List (Int × Int)) : (run Try.prog qaT2 false [] K (retP Try.prog Try.f12.results.toList N) 2500 (frm [J] (bodyOf Try.f12) [1, 1, 1, 1, 1, 1, 1, 1, 1, 0, 1, 0, 0] []) ⟨mkT u 113 0 [(4, .bool false), (5, .ptr 3 q 0), (7, .ptr 5 b7 0), (8, .ptr 7 b8 0), (12, .int .i64 i)], qaL3 ao cap bs ao' cap' ss bl q aoq capq xs na b7 aof capf b8 o zs⟩) = (
b7 = b7 ∧
 match decide (i < (↑(List.length xs) : Int)) with
 | true =>
  b8 = b8 ∧
   match o with
   | true =>
    true = true ∧
     true = true ∧
      q = q ∧
       match (↑(List.length zs) : Int) == (0 : Int) with
       | true =>
        (b8 = b8 ∧ true = true ∧ 1 = 1 ∧ 1 ≤ 1) ∧
         K (Frm.loop J :: Frm.blk 4 :: frm [] (bodyOf Try.f12) [1, 1, 1, 1, 1, 1, 1, 1, 1, 1] [])
          (Sy.mk
           [SV.raw (u 0), SV.raw (u 1), SV.raw (u 2), SV.raw (u 3), SV.bool false, SV.ptr 3 q 0, SV.raw (u 6),
            SV.ptr 5 b7 0, SV.ptr 7 b8 0, SV.raw (u 9), SV.raw (u 10), SV.raw (u 11),
            SV.int IntKind.i64 (IntKind.wrap IntKind.i64 (i + (1 : Int))), SV.int IntKind.i64 (0 : Int), SV.int IntKind.i64 (130 : Int), SV.raw (u 15), SV.raw (u 16),
            SV.raw (u 17), SV.raw (u 18), SV.raw (u 19), SV.raw (u 20), SV.raw (u 21), SV.raw (u 22), SV.raw (u 23),
            SV.raw (u 24), SV.raw (u 25), SV.raw (u 26), SV.raw (u 27), SV.raw (u 28), SV.raw (u 29), SV.raw (u 30),
            SV.raw (u 31), SV.raw (u 32), SV.raw (u 33), SV.raw (u 34), SV.raw (u 35), SV.raw (u 36), SV.raw (u 37),
            SV.raw (u 38), SV.raw (u 39), SV.raw (u 40), SV.raw (u 41), SV.raw (u 42), SV.raw (u 43), SV.raw (u 44),
            SV.raw (u 45), SV.raw (u 46), SV.raw (u 47), SV.raw (u 48), SV.raw (u 49), SV.raw (u 50), SV.raw (u 51),
            SV.raw (u 52), SV.raw (u 53), SV.raw (u 54), SV.raw (u 55), SV.raw (u 56), SV.raw (u 57), SV.raw (u 58),
            SV.raw (u 59), SV.raw (u 60), SV.raw (u 61), SV.raw (u 62), SV.raw (u 63), SV.raw (u 64), SV.raw (u 65),
            SV.raw (u 66), SV.raw (u 67), SV.raw (u 68), SV.raw (u 69), SV.raw (u 70), SV.raw (u 71), SV.raw (u 72),
            SV.raw (u 73), SV.raw (u 74), SV.raw (u 75), SV.raw (u 76), SV.raw (u 77), SV.raw (u 78), SV.raw (u 79),
            SV.raw (u 80), SV.raw (u 81), SV.raw (u 82), SV.raw (u 83), SV.raw (u 84), SV.raw (u 85), SV.raw (u 86),
            SV.raw (u 87), SV.int IntKind.i64 i, SV.vec 6 aof (List.length xs) capf, SV.int IntKind.i64 (↑(List.length xs) : Int),
            SV.bool (decide (i < (↑(List.length xs) : Int))), SV.bool true, SV.bool o, SV.bool true, SV.int IntKind.i64 i, SV.int IntKind.i64 (IntKind.wrap IntKind.i64 (i + (1 : Int))),
            SV.tuple [SV.int IntKind.i64 (0 : Int), SV.int IntKind.i64 (130 : Int)], SV.ptr 3 q 0, SV.tuple [SV.int IntKind.i64 (0 : Int), SV.int IntKind.i64 (130 : Int)],
            SV.int IntKind.i64 (0 : Int), SV.int IntKind.i64 (130 : Int), SV.int IntKind.i64 (130 : Int), SV.bool false, SV.bool false, SV.raw (Value.tuple #[]), SV.raw (Value.tuple #[]),
            SV.raw (Value.tuple #[]), SV.raw (Value.tuple #[]), SV.raw (Value.tuple #[]), SV.raw (Value.tuple #[]), SV.bool false, SV.raw (u 112)]
           [Ent.mk (Loc.sl ao cap) (SObj.roL 1 encI16 bs (0 : Int)), Ent.mk (Loc.sl ao' cap') (SObj.roL 1 encU8 ss (0 : Int)),
            Ent.mk (Loc.blk bl) (SObj.cells [SV.vec 0 ao (List.length bs) cap] (75 : TypeId)),
            Ent.mk (Loc.blk q) (SObj.cells [SV.vec 4 aoq (List.length zs) capq, SV.func (Fn.func (53 : FuncId)) [] [], SV.int IntKind.i64 na] (146 : TypeId)),
            Ent.mk (Loc.sl aoq capq) (SObj.vecL (149 : TypeId) 2 encItI zs ((0 : Int), (0 : Int))),
            Ent.mk (Loc.blk b7) (SObj.cells [SV.vec 6 aof (List.length xs) capf] (39 : TypeId)),
            Ent.mk (Loc.sl aof capf) (SObj.vecL (3 : TypeId) 1 encI1 (firsts xs (List.length xs)) (0 : Int)), Ent.mk (Loc.blk b8) (SObj.cells [SV.bool false] (4 : TypeId))])
       | false =>
        true = true ∧
         ∃ (xs_1 : List (Int × Int)),
          (Ent.mk (Loc.sl aoq capq) (SObj.vecL (149 : TypeId) 2 encItI zs ((0 : Int), (0 : Int))) =
           Ent.mk (Loc.sl aoq capq) (SObj.vecL (149 : TypeId) 2 encItI xs_1 ((0 : Int), (0 : Int))) ∧
           q = q ∧ List.length zs = List.length xs_1 ∧ false = false) ∧
           (147 = (147 : TypeId) ∧ 0 < List.length xs_1 ∧ List.length xs_1 ≤ 2305843009213693952) ∧
            ∃ (bef : Int → Int → Bool),
             RI (53 : FuncId) bef ∧
              b7 = b7 ∧
               (aof = aof ∧ capf = capf ∧ List.length xs = List.length (firsts xs (List.length xs)) ∧ (0 : Int) ≤ i ∧ i < (↑(List.length xs) : Int)) ∧
                (Addr.blkD aof = Addr.blkD aof ∧ Addr.offD aof = Addr.offD aof ∧ 1 = 1 ∧ Int.toNat i < List.length (firsts xs (List.length xs))) ∧
                 (b8 = b8 ∧ true = true ∧ 1 = 1 ∧ 1 ≤ 1) ∧
                  K
                   (Frm.loop J ::
                    Frm.blk 4 :: frm [] (bodyOf Try.f12) [1, 1, 1, 1, 1, 1, 1, 1, 1, 1] [])
                   (Sy.mk
                    [SV.raw (u 0), SV.raw (u 1), SV.raw (u 2), SV.raw (u 3), SV.bool false, SV.ptr 3 q 0, SV.raw (u 6),
                     SV.ptr 5 b7 0, SV.ptr 7 b8 0, SV.raw (u 9), SV.raw (u 10), SV.raw (u 11),
                     SV.int IntKind.i64 (IntKind.wrap IntKind.i64 (i + (1 : Int))), SV.int IntKind.i64 (List.getD xs_1 0 ((0 : Int), (0 : Int))).1,
                     SV.int IntKind.i64 (0 : Int), SV.raw (u 15), SV.raw (u 16), SV.raw (u 17), SV.raw (u 18), SV.raw (u 19),
                     SV.raw (u 20), SV.raw (u 21), SV.raw (u 22), SV.raw (u 23), SV.raw (u 24), SV.raw (u 25),
                     SV.raw (u 26), SV.raw (u 27), SV.raw (u 28), SV.raw (u 29), SV.raw (u 30), SV.raw (u 31),
                     SV.raw (u 32), SV.raw (u 33), SV.raw (u 34), SV.raw (u 35), SV.raw (u 36), SV.raw (u 37),
                     SV.raw (u 38), SV.raw (u 39), SV.raw (u 40), SV.raw (u 41), SV.raw (u 42), SV.raw (u 43),
                     SV.raw (u 44), SV.raw (u 45), SV.raw (u 46), SV.raw (u 47), SV.raw (u 48), SV.raw (u 49),
                     SV.raw (u 50), SV.raw (u 51), SV.raw (u 52), SV.raw (u 53), SV.raw (u 54), SV.raw (u 55),
                     SV.raw (u 56), SV.raw (u 57), SV.raw (u 58), SV.raw (u 59), SV.raw (u 60), SV.raw (u 61),
                     SV.raw (u 62), SV.raw (u 63), SV.raw (u 64), SV.raw (u 65), SV.raw (u 66), SV.raw (u 67),
                     SV.raw (u 68), SV.raw (u 69), SV.raw (u 70), SV.raw (u 71), SV.raw (u 72), SV.raw (u 73),
                     SV.raw (u 74), SV.raw (u 75), SV.raw (u 76), SV.raw (u 77), SV.raw (u 78), SV.raw (u 79),
                     SV.raw (u 80), SV.raw (u 81), SV.raw (u 82), SV.raw (u 83), SV.raw (u 84), SV.raw (u 85),
                     SV.raw (u 86), SV.raw (u 87), SV.int IntKind.i64 i, SV.vec 6 aof (List.length xs) capf, SV.int IntKind.i64 (↑(List.length xs) : Int),
                     SV.bool (decide (i < (↑(List.length xs) : Int))), SV.bool true, SV.bool o, SV.bool true, SV.int IntKind.i64 i,
                     SV.int IntKind.i64 (IntKind.wrap IntKind.i64 (i + (1 : Int))),
                     SV.tuple [SV.int IntKind.i64 (List.getD xs_1 0 ((0 : Int), (0 : Int))).1, SV.int IntKind.i64 (0 : Int)], SV.ptr 3 q 0,
                     SV.tuple [SV.int IntKind.i64 (List.getD xs_1 0 ((0 : Int), (0 : Int))).1, SV.int IntKind.i64 (0 : Int)],
                     SV.int IntKind.i64 (List.getD xs_1 0 ((0 : Int), (0 : Int))).1, SV.int IntKind.i64 (0 : Int), SV.int IntKind.i64 (0 : Int), SV.bool true,
                     SV.bool true, SV.int IntKind.i64 (List.getD xs_1 0 ((0 : Int), (0 : Int))).1, SV.vec 6 aof (List.length xs) capf, SV.int IntKind.i64 i,
                     SV.eptr 6 (Addr.blkD aof) (Addr.offD aof) 1 (Int.toNat i) 0,
                     SV.int IntKind.i64 (List.getD (firsts xs (List.length xs)) (Int.toNat i) (0 : Int)),
                     SV.bool ((List.getD xs_1 0 ((0 : Int), (0 : Int))).1 == List.getD (firsts xs (List.length xs)) (Int.toNat i) (0 : Int)),
                     SV.bool ((List.getD xs_1 0 ((0 : Int), (0 : Int))).1 == List.getD (firsts xs (List.length xs)) (Int.toNat i) (0 : Int)), SV.raw (u 112)]
                    [Ent.mk (Loc.sl ao cap) (SObj.roL 1 encI16 bs (0 : Int)), Ent.mk (Loc.sl ao' cap') (SObj.roL 1 encU8 ss (0 : Int)),
                     Ent.mk (Loc.blk bl) (SObj.cells [SV.vec 0 ao (List.length bs) cap] (75 : TypeId)),
                     Ent.mk (Loc.blk q)
                      (SObj.cells
                       [SV.vec 4 aoq (List.length (popL (lessI bef) ((0 : Int), (0 : Int)) xs_1)) capq, SV.func (Fn.func (53 : FuncId)) [] [], SV.int IntKind.i64 na]
                       (146 : TypeId)),
                     Ent.mk (Loc.sl aoq capq) (SObj.vecL (149 : TypeId) 2 encItI (popL (lessI bef) ((0 : Int), (0 : Int)) xs_1) ((0 : Int), (0 : Int))),
                     Ent.mk (Loc.blk b7) (SObj.cells [SV.vec 6 aof (List.length xs) capf] (39 : TypeId)),
                     Ent.mk (Loc.sl aof capf) (SObj.vecL (3 : TypeId) 1 encI1 (firsts xs (List.length xs)) (0 : Int)),
                     Ent.mk (Loc.blk b8)
                      (SObj.cells [SV.bool ((List.getD xs_1 0 ((0 : Int), (0 : Int))).1 == List.getD (firsts xs (List.length xs)) (Int.toNat i) (0 : Int))]
                       (4 : TypeId))])
   | false =>
    b8 = b8 ∧
     N
      [Ent.mk (Loc.sl ao cap) (SObj.roL 1 encI16 bs (0 : Int)), Ent.mk (Loc.sl ao' cap') (SObj.roL 1 encU8 ss (0 : Int)),
       Ent.mk (Loc.blk bl) (SObj.cells [SV.vec 0 ao (List.length bs) cap] (75 : TypeId)),
       Ent.mk (Loc.blk q) (SObj.cells [SV.vec 4 aoq (List.length zs) capq, SV.func (Fn.func (53 : FuncId)) [] [], SV.int IntKind.i64 na] (146 : TypeId)),
       Ent.mk (Loc.sl aoq capq) (SObj.vecL (149 : TypeId) 2 encItI zs ((0 : Int), (0 : Int))),
       Ent.mk (Loc.blk b7) (SObj.cells [SV.vec 6 aof (List.length xs) capf] (39 : TypeId)),
       Ent.mk (Loc.sl aof capf) (SObj.vecL (3 : TypeId) 1 encI1 (firsts xs (List.length xs)) (0 : Int)), Ent.mk (Loc.blk b8) (SObj.cells [SV.bool o] (4 : TypeId))]
      (SV.bool o)
 | false =>
  b8 = b8 ∧
   N
    [Ent.mk (Loc.sl ao cap) (SObj.roL 1 encI16 bs (0 : Int)), Ent.mk (Loc.sl ao' cap') (SObj.roL 1 encU8 ss (0 : Int)),
     Ent.mk (Loc.blk bl) (SObj.cells [SV.vec 0 ao (List.length bs) cap] (75 : TypeId)),
     Ent.mk (Loc.blk q) (SObj.cells [SV.vec 4 aoq (List.length zs) capq, SV.func (Fn.func (53 : FuncId)) [] [], SV.int IntKind.i64 na] (146 : TypeId)),
     Ent.mk (Loc.sl aoq capq) (SObj.vecL (149 : TypeId) 2 encItI zs ((0 : Int), (0 : Int))), Ent.mk (Loc.blk b7) (SObj.cells [SV.vec 6 aof (List.length xs) capf] (39 : TypeId)),
     Ent.mk (Loc.sl aof capf) (SObj.vecL (3 : TypeId) 1 encI1 (firsts xs (List.length xs)) (0 : Int)), Ent.mk (Loc.blk b8) (SObj.cells [SV.bool o] (4 : TypeId))]
    (SV.bool o)) := by kernel_rfl
end Go.Proofs.Ytjnkfgigpapeaaa
