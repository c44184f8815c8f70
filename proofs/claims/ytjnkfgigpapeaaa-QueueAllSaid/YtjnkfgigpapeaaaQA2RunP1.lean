import Derived.Test.YtjnkfgigpapeaaaQAC
import Derived.Test.YtjnkfgigpapeaaaTab
namespace Go.Proofs.Ytjnkfgigpapeaaa
set_option linter.unusedVariables false
open Go Go.RowKit
set_option maxHeartbeats 0
set_option maxRecDepth 100000
set_option linter.unusedVariables false
set_option maxRecDepth 100000

theorem qa_start (K : List Frm → Sy → Prop) (N : List Ent → SV → Prop) (ao : Option Addr) (cap : Nat) (bs : List Int) (ao' : Option Addr) (cap' : Nat) (ss : List Int) : (run Try.prog qaT2 false [] K (retP Try.prog Try.f12.results.toList N) 2500 [.code (bodyOf Try.f12)] ⟨padTo 113 [.vec 0 ao bs.length cap, .vec 1 ao' ss.length cap'], [⟨.sl ao cap, .roL 1 encI16 bs 0⟩, ⟨.sl ao' cap', .roL 1 encU8 ss 0⟩]⟩) = (
true = true ∧
 ∀ (b : Nat),
  true = true ∧
   b = b ∧
    match decide ((↑(List.length bs) : Int) > (80 : Int)) with
    | true =>
     N
      [Ent.mk (Loc.sl ao cap) (SObj.roL 1 encI16 bs (0 : Int)), Ent.mk (Loc.sl ao' cap') (SObj.roL 1 encU8 ss (0 : Int)),
       Ent.mk (Loc.blk b) (SObj.cells [SV.vec 0 ao (List.length bs) cap] 75)]
      (SV.bool true)
    | false =>
     match decide ((↑(List.length ss) : Int) > (20 : Int)) with
     | true =>
      N
       [Ent.mk (Loc.sl ao cap) (SObj.roL 1 encI16 bs (0 : Int)), Ent.mk (Loc.sl ao' cap') (SObj.roL 1 encU8 ss (0 : Int)),
        Ent.mk (Loc.blk b) (SObj.cells [SV.vec 0 ao (List.length bs) cap] 75)]
       (SV.bool true)
     | false =>
      true = true ∧
       (true = true ∧ true = true) ∧
        (true = true ∧ true = true) ∧
         true = true ∧
          ∀ (b_1 : Nat),
           K (frm [] (bodyOf Try.f12) [1, 1, 1, 1, 0, 1, 0] [])
            (Sy.mk
             [SV.vec 0 ao (List.length bs) cap, SV.vec 1 ao' (List.length ss) cap', SV.ptr 2 b 0, SV.raw (Value.tuple #[]), SV.bool false,
              SV.ptr 3 b_1 0, SV.int IntKind.i64 (0 : Int), SV.raw (Value.tuple #[]), SV.raw (Value.tuple #[]), SV.raw (Value.tuple #[]), SV.raw (Value.tuple #[]),
              SV.raw (Value.tuple #[]), SV.raw (Value.tuple #[]), SV.raw (Value.tuple #[]), SV.raw (Value.tuple #[]), SV.bool true, SV.bool false,
              SV.vec 0 ao (List.length bs) cap, SV.int IntKind.i64 (↑(List.length bs) : Int), SV.bool (decide ((↑(List.length bs) : Int) > (80 : Int))), SV.bool false,
              SV.vec 1 ao' (List.length ss) cap', SV.int IntKind.i64 (↑(List.length ss) : Int), SV.bool (decide ((↑(List.length ss) : Int) > (20 : Int))), SV.bool false,
              SV.ptr 3 b_1 0, SV.raw (Value.tuple #[]), SV.raw (Value.tuple #[]), SV.raw (Value.tuple #[]), SV.raw (Value.tuple #[]), SV.raw (Value.tuple #[]),
              SV.raw (Value.tuple #[]), SV.raw (Value.tuple #[]), SV.raw (Value.tuple #[]), SV.raw (Value.tuple #[]), SV.raw (Value.tuple #[]), SV.raw (Value.tuple #[]),
              SV.raw (Value.tuple #[]), SV.raw (Value.tuple #[]), SV.raw (Value.tuple #[]), SV.raw (Value.tuple #[]), SV.raw (Value.tuple #[]), SV.raw (Value.tuple #[]),
              SV.raw (Value.tuple #[]), SV.raw (Value.tuple #[]), SV.raw (Value.tuple #[]), SV.raw (Value.tuple #[]), SV.raw (Value.tuple #[]), SV.raw (Value.tuple #[]),
              SV.raw (Value.tuple #[]), SV.raw (Value.tuple #[]), SV.raw (Value.tuple #[]), SV.raw (Value.tuple #[]), SV.raw (Value.tuple #[]), SV.raw (Value.tuple #[]),
              SV.raw (Value.tuple #[]), SV.raw (Value.tuple #[]), SV.raw (Value.tuple #[]), SV.raw (Value.tuple #[]), SV.raw (Value.tuple #[]), SV.raw (Value.tuple #[]),
              SV.raw (Value.tuple #[]), SV.raw (Value.tuple #[]), SV.raw (Value.tuple #[]), SV.raw (Value.tuple #[]), SV.raw (Value.tuple #[]), SV.raw (Value.tuple #[]),
              SV.raw (Value.tuple #[]), SV.raw (Value.tuple #[]), SV.raw (Value.tuple #[]), SV.raw (Value.tuple #[]), SV.raw (Value.tuple #[]), SV.raw (Value.tuple #[]),
              SV.raw (Value.tuple #[]), SV.raw (Value.tuple #[]), SV.raw (Value.tuple #[]), SV.raw (Value.tuple #[]), SV.raw (Value.tuple #[]), SV.raw (Value.tuple #[]),
              SV.raw (Value.tuple #[]), SV.raw (Value.tuple #[]), SV.raw (Value.tuple #[]), SV.raw (Value.tuple #[]), SV.raw (Value.tuple #[]), SV.raw (Value.tuple #[]),
              SV.raw (Value.tuple #[]), SV.raw (Value.tuple #[]), SV.raw (Value.tuple #[]), SV.raw (Value.tuple #[]), SV.raw (Value.tuple #[]), SV.raw (Value.tuple #[]),
              SV.raw (Value.tuple #[]), SV.raw (Value.tuple #[]), SV.raw (Value.tuple #[]), SV.raw (Value.tuple #[]), SV.raw (Value.tuple #[]), SV.raw (Value.tuple #[]),
              SV.raw (Value.tuple #[]), SV.raw (Value.tuple #[]), SV.raw (Value.tuple #[]), SV.raw (Value.tuple #[]), SV.raw (Value.tuple #[]), SV.raw (Value.tuple #[]),
              SV.raw (Value.tuple #[]), SV.raw (Value.tuple #[]), SV.raw (Value.tuple #[]), SV.raw (Value.tuple #[]), SV.raw (Value.tuple #[]), SV.raw (Value.tuple #[]),
              SV.raw (Value.tuple #[]), SV.raw (Value.tuple #[]), SV.raw (Value.tuple #[]), SV.raw (Value.tuple #[])]
             [Ent.mk (Loc.sl ao cap) (SObj.roL 1 encI16 bs (0 : Int)), Ent.mk (Loc.sl ao' cap') (SObj.roL 1 encU8 ss (0 : Int)),
              Ent.mk (Loc.blk b) (SObj.cells [SV.vec 0 ao (List.length bs) cap] 75),
              Ent.mk (Loc.blk b_1) (SObj.cells [SV.raw (Value.slice (@none Addr) 0 0), SV.func (Fn.func 53) [] [], SV.int IntKind.i64 (0 : Int)] 146)])) := by kernel_rfl


theorem qa_l1 (K : List Frm → Sy → Prop) (N : List Ent → SV → Prop) (J : Act → World → Prop) (u : Nat → Value) (ao : Option Addr) (cap : Nat) (bs : List Int) (ao' : Option Addr) (cap' : Nat) (ss : List Int) (bl q : Nat) (aoq : Option Addr) (capq : Nat) (xs : List (Int × Int)) (na : Int) (i : Int) : (run Try.prog qaT2 false [] K (retP Try.prog Try.f12.results.toList N) 2500 (frm [J] (bodyOf Try.f12) [1, 1, 1, 1, 0, 1, 0, 0] []) ⟨mkT u 113 0 [(1, .vec 1 ao' ss.length cap'), (2, .ptr 2 bl 0), (4, .bool false), (5, .ptr 3 q 0), (6, .int .i64 i)], qaL0 ao cap bs ao' cap' ss bl q aoq capq xs na⟩) = (
bl = bl ∧
 match decide (i < (↑(List.length bs) : Int)) with
 | true =>
  bl = bl ∧
   (ao = ao ∧ cap = cap ∧ List.length bs = List.length bs ∧ (0 : Int) ≤ i ∧ i < (↑(List.length bs) : Int)) ∧
    (Addr.blkD ao = Addr.blkD ao ∧ Addr.offD ao = Addr.offD ao ∧ 1 = 1 ∧ Int.toNat i < List.length bs) ∧
     true = true ∧
      q = q ∧
       (true = true ∧ true = true) ∧
        true = true ∧
         ∃ (xs_1 : List (Int × Int)),
          (Ent.mk (Loc.sl aoq capq) (SObj.vecL (149 : TypeId) 2 encItI xs ((0 : Int), (0 : Int))) =
           Ent.mk (Loc.sl aoq capq) (SObj.vecL (149 : TypeId) 2 encItI xs_1 ((0 : Int), (0 : Int))) ∧
           q = q ∧ List.length xs = List.length xs_1 ∧ false = false) ∧
           ∃ (x : Int × Int),
            (147 = (147 : TypeId) ∧
             149 = (149 : TypeId) ∧
              [SV.int IntKind.i64 x.1, SV.int IntKind.i64 x.2] = [SV.int IntKind.i64 (IntKind.wrap IntKind.i64 (List.getD bs (Int.toNat i) (0 : Int))), SV.int IntKind.i64 na] ∧
               (List.length xs_1 + 1) * 16 ≤ 140737488355328 ∧ List.length xs_1 < 2305843009213693952) ∧
             ∃ (bef : Int → Int → Bool),
              RI (53 : FuncId) bef ∧
               ∀ (ao2 : Option Addr) (cap2 : Nat),
                q = q ∧
                 (q = q ∧ true = true ∧ 1 = 1 ∧ 3 ≤ 3) ∧
                  K (Frm.loop J :: Frm.blk 0 :: frm [] (bodyOf Try.f12) [1, 1, 1, 1, 1] [])
                   (Sy.mk
                    [SV.raw (u 0), SV.vec 1 ao' (List.length ss) cap', SV.ptr 2 bl 0, SV.raw (u 3), SV.bool false,
                     SV.ptr 3 q 0, SV.int IntKind.i64 (IntKind.wrap IntKind.i64 (i + (1 : Int))), SV.raw (u 7), SV.raw (u 8), SV.raw (u 9),
                     SV.raw (u 10), SV.raw (u 11), SV.raw (u 12), SV.raw (u 13), SV.raw (u 14), SV.raw (u 15),
                     SV.raw (u 16), SV.raw (u 17), SV.raw (u 18), SV.raw (u 19), SV.raw (u 20), SV.raw (u 21),
                     SV.raw (u 22), SV.raw (u 23), SV.raw (u 24), SV.raw (u 25), SV.int IntKind.i64 i, SV.vec 0 ao (List.length bs) cap,
                     SV.int IntKind.i64 (↑(List.length bs) : Int), SV.bool true, SV.int IntKind.i64 i, SV.int IntKind.i64 (IntKind.wrap IntKind.i64 (i + (1 : Int))),
                     SV.ptr 3 q 0, SV.vec 0 ao (List.length bs) cap, SV.int IntKind.i64 i,
                     SV.eptr 0 (Addr.blkD ao) (Addr.offD ao) 1 (Int.toNat i) 0, SV.int IntKind.i16 (List.getD bs (Int.toNat i) (0 : Int)),
                     SV.int IntKind.i64 (IntKind.wrap IntKind.i64 (List.getD bs (Int.toNat i) (0 : Int))), SV.tuple [], SV.raw (u 39), SV.raw (u 40),
                     SV.raw (u 41), SV.raw (u 42), SV.raw (u 43), SV.raw (u 44), SV.raw (u 45), SV.raw (u 46),
                     SV.raw (u 47), SV.raw (u 48), SV.raw (u 49), SV.raw (u 50), SV.raw (u 51), SV.raw (u 52),
                     SV.raw (u 53), SV.raw (u 54), SV.raw (u 55), SV.raw (u 56), SV.raw (u 57), SV.raw (u 58),
                     SV.raw (u 59), SV.raw (u 60), SV.raw (u 61), SV.raw (u 62), SV.raw (u 63), SV.raw (u 64),
                     SV.raw (u 65), SV.raw (u 66), SV.raw (u 67), SV.raw (u 68), SV.raw (u 69), SV.raw (u 70),
                     SV.raw (u 71), SV.raw (u 72), SV.raw (u 73), SV.raw (u 74), SV.raw (u 75), SV.raw (u 76),
                     SV.raw (u 77), SV.raw (u 78), SV.raw (u 79), SV.raw (u 80), SV.raw (u 81), SV.raw (u 82),
                     SV.raw (u 83), SV.raw (u 84), SV.raw (u 85), SV.raw (u 86), SV.raw (u 87), SV.raw (u 88),
                     SV.raw (u 89), SV.raw (u 90), SV.raw (u 91), SV.raw (u 92), SV.raw (u 93), SV.raw (u 94),
                     SV.raw (u 95), SV.raw (u 96), SV.raw (u 97), SV.raw (u 98), SV.raw (u 99), SV.raw (u 100),
                     SV.raw (u 101), SV.raw (u 102), SV.raw (u 103), SV.raw (u 104), SV.raw (u 105), SV.raw (u 106),
                     SV.raw (u 107), SV.raw (u 108), SV.raw (u 109), SV.raw (u 110), SV.raw (u 111), SV.raw (u 112)]
                    [Ent.mk (Loc.sl ao cap) (SObj.roL 1 encI16 bs (0 : Int)), Ent.mk (Loc.sl ao' cap') (SObj.roL 1 encU8 ss (0 : Int)),
                     Ent.mk (Loc.blk bl) (SObj.cells [SV.vec 0 ao (List.length bs) cap] (75 : TypeId)),
                     Ent.mk (Loc.blk q)
                      (SObj.cells
                       [SV.vec 4 ao2 (List.length (pushL (lessI bef) ((0 : Int), (0 : Int)) xs_1 x)) cap2, SV.func (Fn.func (53 : FuncId)) [] [],
                        SV.int IntKind.i64 (IntKind.wrap IntKind.i64 (na + (1 : Int)))]
                       (146 : TypeId)),
                     Ent.mk (Loc.sl ao2 cap2) (SObj.vecL (149 : TypeId) 2 encItI (pushL (lessI bef) ((0 : Int), (0 : Int)) xs_1 x) ((0 : Int), (0 : Int)))])
 | false =>
  ∀ (b : Nat),
   true = true ∧
    true = true ∧
     ∀ (b_1 : Nat),
      true = true ∧
       55 = (55 : FuncId) ∧
        ∃ (ao_1 : Option Addr),
         ∃ (cap_1 : Nat),
          ∃ (bs_1 : List Int),
           ∃ (ao'_1 : Option Addr),
            ∃ (cap'_1 : Nat),
             ∃ (ss_1 : List Int),
              ∃ (q_1 : Nat),
               ∃ (aoq_1 : Option Addr),
                ∃ (capq_1 : Nat),
                 ∃ (xs_1 : List (Int × Int)),
                  ∃ (na_1 : Int),
                   [Ent.mk (Loc.sl ao cap) (SObj.roL 1 encI16 bs (0 : Int)), Ent.mk (Loc.sl ao' cap') (SObj.roL 1 encU8 ss (0 : Int)),
                    Ent.mk (Loc.blk bl) (SObj.cells [SV.vec 0 ao (List.length bs) cap] (75 : TypeId)),
                    Ent.mk (Loc.blk q) (SObj.cells [SV.vec 4 aoq (List.length xs) capq, SV.func (Fn.func (53 : FuncId)) [] [], SV.int IntKind.i64 na] (146 : TypeId)),
                    Ent.mk (Loc.sl aoq capq) (SObj.vecL (149 : TypeId) 2 encItI xs ((0 : Int), (0 : Int))),
                    Ent.mk (Loc.blk b) (SObj.cells [SV.raw (Value.slice (@none Addr) 0 0)] 39),
                    Ent.mk (Loc.blk b_1) (SObj.cells [SV.ptr 3 q 0] 77)] =
                    [Ent.mk (Loc.sl ao_1 cap_1) (SObj.roL 1 encI16 bs_1 (0 : Int)), Ent.mk (Loc.sl ao'_1 cap'_1) (SObj.roL 1 encU8 ss_1 (0 : Int)),
                     Ent.mk (Loc.blk bl) (SObj.cells [SV.vec 0 ao_1 (List.length bs_1) cap_1] (75 : TypeId)),
                     Ent.mk (Loc.blk q_1)
                      (SObj.cells [SV.vec 4 aoq_1 (List.length xs_1) capq_1, SV.func (Fn.func (53 : FuncId)) [] [], SV.int IntKind.i64 na_1] (146 : TypeId)),
                     Ent.mk (Loc.sl aoq_1 capq_1) (SObj.vecL (149 : TypeId) 2 encItI xs_1 ((0 : Int), (0 : Int))),
                     Ent.mk (Loc.blk b) (SObj.cells [SV.raw (Value.slice (@none Addr) 0 0)] (39 : TypeId)),
                     Ent.mk (Loc.blk b_1) (SObj.cells [SV.ptr 3 q_1 0] (77 : TypeId))] ∧
                    (List.length xs_1 = List.length bs_1 ∧ List.length xs_1 ≤ 80) ∧
                     ∀ (aof : Option Addr) (capf : Nat),
                      b = b ∧
                       bl = bl ∧
                        ∀ (b_2 : Nat),
                         (b_2 = b_2 ∧ true = true ∧ 1 = 1 ∧ 1 ≤ 1) ∧
                          K
                           (frm [] (bodyOf Try.f12) [1, 1, 1, 1, 1, 1, 1, 1, 0, 1, 0]
                            [])
                           (Sy.mk
                            [SV.raw (u 0), SV.vec 1 ao' (List.length ss) cap', SV.ptr 2 bl 0, SV.raw (u 3), SV.bool false,
                             SV.ptr 3 q 0, SV.int IntKind.i64 i, SV.ptr 5 b 0, SV.ptr 7 b_2 0,
                             SV.int IntKind.i64 (0 : Int), SV.raw (u 10), SV.raw (u 11), SV.raw (u 12), SV.raw (u 13),
                             SV.raw (u 14), SV.raw (u 15), SV.raw (u 16), SV.raw (u 17), SV.raw (u 18), SV.raw (u 19),
                             SV.raw (u 20), SV.raw (u 21), SV.raw (u 22), SV.raw (u 23), SV.raw (u 24), SV.raw (u 25),
                             SV.int IntKind.i64 i, SV.vec 0 ao (List.length bs) cap, SV.int IntKind.i64 (↑(List.length bs) : Int), SV.bool false,
                             SV.raw (u 30), SV.raw (u 31), SV.raw (u 32), SV.raw (u 33), SV.raw (u 34), SV.raw (u 35),
                             SV.raw (u 36), SV.raw (u 37), SV.raw (u 38), SV.ptr 3 q 0,
                             SV.func (Fn.func 87) [] [SV.ptr 6 b_1 0],
                             SV.func (Fn.func 55) [] [SV.ptr 5 b 0, SV.ptr 2 bl 0], SV.tuple [],
                             SV.vec 6 aof (List.length xs_1) capf, SV.int IntKind.i64 (↑(List.length xs_1) : Int), SV.vec 0 ao_1 (List.length bs_1) cap_1,
                             SV.int IntKind.i64 (↑(List.length bs_1) : Int), SV.bool ((↑(List.length xs_1) : Int) == (↑(List.length bs_1) : Int)), SV.raw (u 48),
                             SV.raw (u 49), SV.raw (u 50), SV.raw (u 51), SV.raw (u 52), SV.raw (u 53), SV.raw (u 54),
                             SV.raw (u 55), SV.raw (u 56), SV.raw (u 57), SV.raw (u 58), SV.raw (u 59), SV.raw (u 60),
                             SV.raw (u 61), SV.raw (u 62), SV.raw (u 63), SV.raw (u 64), SV.raw (u 65), SV.raw (u 66),
                             SV.raw (u 67), SV.raw (u 68), SV.raw (u 69), SV.raw (u 70), SV.raw (u 71), SV.raw (u 72),
                             SV.raw (u 73), SV.raw (u 74), SV.raw (u 75), SV.raw (u 76), SV.raw (u 77), SV.raw (u 78),
                             SV.raw (u 79), SV.raw (u 80), SV.raw (u 81), SV.raw (u 82), SV.raw (u 83), SV.raw (u 84),
                             SV.raw (u 85), SV.raw (u 86), SV.raw (u 87), SV.raw (u 88), SV.raw (u 89), SV.raw (u 90),
                             SV.raw (u 91), SV.raw (u 92), SV.raw (u 93), SV.raw (u 94), SV.raw (u 95), SV.raw (u 96),
                             SV.raw (u 97), SV.raw (u 98), SV.raw (u 99), SV.raw (u 100), SV.raw (u 101), SV.raw (u 102),
                             SV.raw (u 103), SV.raw (u 104), SV.raw (u 105), SV.raw (u 106), SV.raw (u 107),
                             SV.raw (u 108), SV.raw (u 109), SV.raw (u 110), SV.raw (u 111), SV.raw (u 112)]
                            [Ent.mk (Loc.sl ao_1 cap_1) (SObj.roL 1 encI16 bs_1 (0 : Int)), Ent.mk (Loc.sl ao'_1 cap'_1) (SObj.roL 1 encU8 ss_1 (0 : Int)),
                             Ent.mk (Loc.blk bl) (SObj.cells [SV.vec 0 ao_1 (List.length bs_1) cap_1] (75 : TypeId)),
                             Ent.mk (Loc.blk q_1)
                              (SObj.cells [SV.vec 4 aoq_1 (List.length xs_1) capq_1, SV.func (Fn.func (53 : FuncId)) [] [], SV.int IntKind.i64 na_1]
                               (146 : TypeId)),
                             Ent.mk (Loc.sl aoq_1 capq_1) (SObj.vecL (149 : TypeId) 2 encItI xs_1 ((0 : Int), (0 : Int))),
                             Ent.mk (Loc.blk b) (SObj.cells [SV.vec 6 aof (List.length xs_1) capf] (39 : TypeId)),
                             Ent.mk (Loc.sl aof capf) (SObj.vecL (3 : TypeId) 1 encI1 (firsts xs_1 (List.length xs_1)) (0 : Int)),
                             Ent.mk (Loc.blk b_2) (SObj.cells [SV.bool ((↑(List.length xs_1) : Int) == (↑(List.length bs_1) : Int))] 4)])) := by kernel_rfl


theorem qa_l2 (K : List Frm → Sy → Prop) (N : List Ent → SV → Prop) (J : Act → World → Prop) (u : Nat → Value) (ao : Option Addr) (cap : Nat) (bs : List Int) (ao' : Option Addr) (cap' : Nat) (ss : List Int) (bl q : Nat) (aoq : Option Addr) (capq : Nat) (xs : List (Int × Int)) (na : Int) (b7 : Nat) (aof : Option Addr) (capf : Nat) (b8 : Nat) (o : Bool) (i : Int) : (run Try.prog qaT2 false [] K (retP Try.prog Try.f12.results.toList N) 2500 (frm [J] (bodyOf Try.f12) [1, 1, 1, 1, 1, 1, 1, 1, 0, 1, 0, 0] []) ⟨mkT u 113 0 [(1, .vec 1 ao' ss.length cap'), (2, .ptr 2 bl 0), (4, .bool false), (5, .ptr 3 q 0), (7, .ptr 5 b7 0), (8, .ptr 7 b8 0), (9, .int .i64 i)], qaL2 ao cap bs ao' cap' ss bl q aoq capq xs na b7 aof capf b8 o⟩) = (
match decide (i < (↑(List.length ss) : Int)) with
| true =>
 (ao' = ao' ∧ cap' = cap' ∧ List.length ss = List.length ss ∧ (0 : Int) ≤ i ∧ i < (↑(List.length ss) : Int)) ∧
  (Addr.blkD ao' = Addr.blkD ao' ∧ Addr.offD ao' = Addr.offD ao' ∧ 1 = 1 ∧ Int.toNat i < List.length ss) ∧
   bl = bl ∧
    IntKind.wrap IntKind.i64 ((↑(List.length bs) : Int) + (1 : Int)) ≠ (0 : Int) ∧
     ∀ (b : Nat),
      (Ent.mk (Loc.sl ao cap) (SObj.roL 1 encI16 bs (0 : Int)) = Ent.mk (Loc.sl ao cap) (SObj.roL 1 encI16 bs (0 : Int)) ∧
       Ent.mk (Loc.sl ao' cap') (SObj.roL 1 encU8 ss (0 : Int)) = Ent.mk (Loc.sl ao' cap') (SObj.roL 1 encU8 ss (0 : Int)) ∧
        Ent.mk (Loc.blk bl) (SObj.cells [SV.vec 0 ao (List.length bs) cap] (75 : TypeId)) =
         Ent.mk (Loc.blk bl) (SObj.cells [SV.vec 0 ao (List.length bs) cap] (75 : TypeId)) ∧
         Ent.mk (Loc.blk q) (SObj.cells [SV.vec 4 aoq (List.length xs) capq, SV.func (Fn.func (53 : FuncId)) [] [], SV.int IntKind.i64 na] (146 : TypeId)) =
          Ent.mk (Loc.blk q) (SObj.cells [SV.vec 4 aoq (List.length xs) capq, SV.func (Fn.func (53 : FuncId)) [] [], SV.int IntKind.i64 na] (146 : TypeId)) ∧
          Ent.mk (Loc.sl aoq capq) (SObj.vecL (149 : TypeId) 2 encItI xs ((0 : Int), (0 : Int))) =
           Ent.mk (Loc.sl aoq capq) (SObj.vecL (149 : TypeId) 2 encItI xs ((0 : Int), (0 : Int))) ∧
           Ent.mk (Loc.blk b7) (SObj.cells [SV.vec 6 aof (List.length xs) capf] (39 : TypeId)) =
            Ent.mk (Loc.blk b7) (SObj.cells [SV.vec 6 aof (List.length xs) capf] (39 : TypeId)) ∧
            Ent.mk (Loc.sl aof capf) (SObj.vecL (3 : TypeId) 1 encI1 (firsts xs (List.length xs)) (0 : Int)) =
             Ent.mk (Loc.sl aof capf) (SObj.vecL (3 : TypeId) 1 encI1 (firsts xs (List.length xs)) (0 : Int)) ∧
             Ent.mk (Loc.blk b8) (SObj.cells [SV.bool o] (4 : TypeId)) = Ent.mk (Loc.blk b8) (SObj.cells [SV.bool o] (4 : TypeId)) ∧ True) ∧
       (b = b ∧ true = true ∧ 1 = 1 ∧ 1 ≤ 1) ∧
        ∀ (b_1 : Nat),
         (b_1 = b_1 ∧ true = true ∧ 1 = 1 ∧ 1 ≤ 1) ∧
          true = true ∧
           true = true ∧
            ∀ (b_2 : Nat),
             true = true ∧
              56 = (56 : FuncId) ∧
               ∃ (ao_1 : Option Addr),
                ∃ (cap_1 : Nat),
                 ∃ (bs_1 : List Int),
                  ∃ (ao'_1 : Option Addr),
                   ∃ (cap'_1 : Nat),
                    ∃ (ss_1 : List Int),
                     ∃ (bl_1 : Nat),
                      ∃ (q_1 : Nat),
                       ∃ (aoq_1 : Option Addr),
                        ∃ (capq_1 : Nat),
                         ∃ (xs_1 : List (Int × Int)),
                          ∃ (na_1 : Int),
                           ∃ (aof_1 : Option Addr),
                            ∃ (capf_1 : Nat),
                             ∃ (o_1 : Bool),
                              ∃ (n : Int),
                               [Ent.mk (Loc.sl ao cap) (SObj.roL 1 encI16 bs (0 : Int)), Ent.mk (Loc.sl ao' cap') (SObj.roL 1 encU8 ss (0 : Int)),
                                Ent.mk (Loc.blk bl) (SObj.cells [SV.vec 0 ao (List.length bs) cap] (75 : TypeId)),
                                Ent.mk (Loc.blk q)
                                 (SObj.cells [SV.vec 4 aoq (List.length xs) capq, SV.func (Fn.func (53 : FuncId)) [] [], SV.int IntKind.i64 na]
                                  (146 : TypeId)),
                                Ent.mk (Loc.sl aoq capq) (SObj.vecL (149 : TypeId) 2 encItI xs ((0 : Int), (0 : Int))),
                                Ent.mk (Loc.blk b7) (SObj.cells [SV.vec 6 aof (List.length xs) capf] (39 : TypeId)),
                                Ent.mk (Loc.sl aof capf) (SObj.vecL (3 : TypeId) 1 encI1 (firsts xs (List.length xs)) (0 : Int)),
                                Ent.mk (Loc.blk b8) (SObj.cells [SV.bool o] (4 : TypeId)),
                                Ent.mk (Loc.blk b)
                                 (SObj.cells
                                  [SV.int IntKind.i64
                                   (Int.tmod (IntKind.wrap IntKind.i64 (List.getD ss (Int.toNat i) (0 : Int)))
                                    (IntKind.wrap IntKind.i64 ((↑(List.length bs) : Int) + (1 : Int))))]
                                  3),
                                Ent.mk (Loc.blk b_1) (SObj.cells [SV.int IntKind.i64 (0 : Int)] 3),
                                Ent.mk (Loc.blk b_2) (SObj.cells [SV.ptr 3 q 0] 77)] =
                                [Ent.mk (Loc.sl ao_1 cap_1) (SObj.roL 1 encI16 bs_1 (0 : Int)),
                                 Ent.mk (Loc.sl ao'_1 cap'_1) (SObj.roL 1 encU8 ss_1 (0 : Int)),
                                 Ent.mk (Loc.blk bl_1) (SObj.cells [SV.vec 0 ao_1 (List.length bs_1) cap_1] (75 : TypeId)),
                                 Ent.mk (Loc.blk q_1)
                                  (SObj.cells [SV.vec 4 aoq_1 (List.length xs_1) capq_1, SV.func (Fn.func (53 : FuncId)) [] [], SV.int IntKind.i64 na_1]
                                   (146 : TypeId)),
                                 Ent.mk (Loc.sl aoq_1 capq_1) (SObj.vecL (149 : TypeId) 2 encItI xs_1 ((0 : Int), (0 : Int))),
                                 Ent.mk (Loc.blk b7) (SObj.cells [SV.vec 6 aof_1 (List.length xs_1) capf_1] (39 : TypeId)),
                                 Ent.mk (Loc.sl aof_1 capf_1) (SObj.vecL (3 : TypeId) 1 encI1 (firsts xs_1 (List.length xs_1)) (0 : Int)),
                                 Ent.mk (Loc.blk b8) (SObj.cells [SV.bool o_1] (4 : TypeId)), Ent.mk (Loc.blk b) (SObj.cells [SV.int IntKind.i64 n] (3 : TypeId)),
                                 Ent.mk (Loc.blk b_1) (SObj.cells [SV.int IntKind.i64 (↑0 : Int)] (3 : TypeId)),
                                 Ent.mk (Loc.blk b_2) (SObj.cells [SV.ptr 3 q_1 0] (77 : TypeId))] ∧
                                ((0 : Int) ≤ n ∧ n ≤ (↑(List.length xs_1) : Int) ∧ List.length xs_1 ≤ 80) ∧
                                 b8 = b8 ∧
                                  match o_1 with
                                  | true =>
                                   (true = true ∧
                                    q_1 = q ∧
                                     bl_1 = bl ∧
                                      (match (↑(List.length xs_1) : Int) == (↑(List.length bs_1) : Int) with
                                       | true =>
                                        b_1 = b_1 ∧
                                         b = b ∧
                                          match (↑(atF (List.length xs_1) (Int.toNat n)) : Int) == n with
                                          | true =>
                                           true = true ∧
                                            true = true ∧
                                             (b8 = b8 ∧ true = true ∧ 1 = 1 ∧ 1 ≤ 1) ∧
                                              K
                                               (Frm.loop J ::
                                                Frm.blk 2 ::
                                                 frm [] (bodyOf Try.f12)
                                                  [1, 1, 1, 1, 1, 1, 1, 1,
                                                   1]
                                                  [])
                                               (Sy.mk
                                                [SV.raw (u 0), SV.vec 1 ao' (List.length ss) cap', SV.ptr 2 bl 0,
                                                 SV.raw (u 3), SV.bool false, SV.ptr 3 q 0, SV.raw (u 6),
                                                 SV.ptr 5 b7 0, SV.ptr 7 b8 0,
                                                 SV.int IntKind.i64 (IntKind.wrap IntKind.i64 (i + (1 : Int))), SV.ptr 8 b 0,
                                                 SV.ptr 9 b_1 0, SV.raw (u 12), SV.raw (u 13), SV.raw (u 14),
                                                 SV.raw (u 15), SV.raw (u 16), SV.raw (u 17), SV.raw (u 18),
                                                 SV.raw (u 19), SV.raw (u 20), SV.raw (u 21), SV.raw (u 22),
                                                 SV.raw (u 23), SV.raw (u 24), SV.raw (u 25), SV.raw (u 26),
                                                 SV.raw (u 27), SV.raw (u 28), SV.raw (u 29), SV.raw (u 30),
                                                 SV.raw (u 31), SV.raw (u 32), SV.raw (u 33), SV.raw (u 34),
                                                 SV.raw (u 35), SV.raw (u 36), SV.raw (u 37), SV.raw (u 38),
                                                 SV.raw (u 39), SV.raw (u 40), SV.raw (u 41), SV.raw (u 42),
                                                 SV.raw (u 43), SV.raw (u 44), SV.raw (u 45), SV.raw (u 46),
                                                 SV.raw (u 47), SV.int IntKind.i64 i, SV.vec 1 ao' (List.length ss) cap',
                                                 SV.int IntKind.i64 (↑(List.length ss) : Int), SV.bool true, SV.int IntKind.i64 i,
                                                 SV.int IntKind.i64 (IntKind.wrap IntKind.i64 (i + (1 : Int))),
                                                 SV.vec 1 ao' (List.length ss) cap', SV.int IntKind.i64 i,
                                                 SV.eptr 1 (Addr.blkD ao') (Addr.offD ao') 1 (Int.toNat i) 0,
                                                 SV.int IntKind.u8 (List.getD ss (Int.toNat i) (0 : Int)),
                                                 SV.int IntKind.i64 (IntKind.wrap IntKind.i64 (List.getD ss (Int.toNat i) (0 : Int))),
                                                 SV.vec 0 ao (List.length bs) cap, SV.int IntKind.i64 (↑(List.length bs) : Int),
                                                 SV.int IntKind.i64 (IntKind.wrap IntKind.i64 ((↑(List.length bs) : Int) + (1 : Int))),
                                                 SV.int IntKind.i64
                                                  (Int.tmod (IntKind.wrap IntKind.i64 (List.getD ss (Int.toNat i) (0 : Int)))
                                                   (IntKind.wrap IntKind.i64 ((↑(List.length bs) : Int) + (1 : Int)))),
                                                 SV.ptr 3 q 0, SV.func (Fn.func 87) [] [SV.ptr 10 b_2 0],
                                                 SV.func (Fn.func 56) []
                                                  [SV.ptr 7 b8 0, SV.ptr 9 b_1 0, SV.ptr 5 b7 0,
                                                   SV.ptr 8 b 0],
                                                 SV.tuple [], SV.bool o_1, SV.bool true, SV.ptr 3 q 0,
                                                 SV.int IntKind.i64 (↑(List.length xs_1) : Int), SV.vec 0 ao_1 (List.length bs_1) cap_1,
                                                 SV.int IntKind.i64 (↑(List.length bs_1) : Int),
                                                 SV.bool ((↑(List.length xs_1) : Int) == (↑(List.length bs_1) : Int)),
                                                 SV.bool ((↑(List.length xs_1) : Int) == (↑(List.length bs_1) : Int)), SV.bool true,
                                                 SV.int IntKind.i64 (↑(atF (List.length xs_1) (Int.toNat n)) : Int), SV.int IntKind.i64 n,
                                                 SV.bool ((↑(atF (List.length xs_1) (Int.toNat n)) : Int) == n), SV.bool true,
                                                 SV.raw (Value.tuple #[]), SV.raw (Value.tuple #[]), SV.raw (Value.tuple #[]),
                                                 SV.raw (Value.tuple #[]), SV.raw (Value.tuple #[]), SV.raw (Value.tuple #[]), SV.bool true,
                                                 SV.bool true, SV.raw (u 88), SV.raw (u 89), SV.raw (u 90),
                                                 SV.raw (u 91), SV.raw (u 92), SV.raw (u 93), SV.raw (u 94),
                                                 SV.raw (u 95), SV.raw (u 96), SV.raw (u 97), SV.raw (u 98),
                                                 SV.raw (u 99), SV.raw (u 100), SV.raw (u 101), SV.raw (u 102),
                                                 SV.raw (u 103), SV.raw (u 104), SV.raw (u 105), SV.raw (u 106),
                                                 SV.raw (u 107), SV.raw (u 108), SV.raw (u 109), SV.raw (u 110),
                                                 SV.raw (u 111), SV.raw (u 112)]
                                                [Ent.mk (Loc.sl ao_1 cap_1) (SObj.roL 1 encI16 bs_1 (0 : Int)),
                                                 Ent.mk (Loc.sl ao'_1 cap'_1) (SObj.roL 1 encU8 ss_1 (0 : Int)),
                                                 Ent.mk (Loc.blk bl_1) (SObj.cells [SV.vec 0 ao_1 (List.length bs_1) cap_1] (75 : TypeId)),
                                                 Ent.mk (Loc.blk q_1)
                                                  (SObj.cells
                                                   [SV.vec 4 aoq_1 (List.length xs_1) capq_1, SV.func (Fn.func (53 : FuncId)) [] [],
                                                    SV.int IntKind.i64 na_1]
                                                   (146 : TypeId)),
                                                 Ent.mk (Loc.sl aoq_1 capq_1)
                                                  (SObj.vecL (149 : TypeId) 2 encItI xs_1 ((0 : Int), (0 : Int))),
                                                 Ent.mk (Loc.blk b7) (SObj.cells [SV.vec 6 aof_1 (List.length xs_1) capf_1] (39 : TypeId)),
                                                 Ent.mk (Loc.sl aof_1 capf_1)
                                                  (SObj.vecL (3 : TypeId) 1 encI1 (firsts xs_1 (List.length xs_1)) (0 : Int)),
                                                 Ent.mk (Loc.blk b8) (SObj.cells [SV.bool true] (4 : TypeId)),
                                                 Ent.mk (Loc.blk b) (SObj.cells [SV.int IntKind.i64 n] (3 : TypeId)),
                                                 Ent.mk (Loc.blk b_1)
                                                  (SObj.cells [SV.int IntKind.i64 (↑(atF (List.length xs_1) (Int.toNat n)) : Int)] (3 : TypeId))])
                                          | false =>
                                           b = b ∧
                                            match n == (0 : Int) with
                                            | true =>
                                             b_1 = b_1 ∧
                                              (b8 = b8 ∧ true = true ∧ 1 = 1 ∧ 1 ≤ 1) ∧
                                               K
                                                (Frm.loop J ::
                                                 Frm.blk 2 ::
                                                  frm [] (bodyOf Try.f12)
                                                   [1, 1, 1, 1, 1, 1, 1, 1,
                                                    1]
                                                   [])
                                                (Sy.mk
                                                 [SV.raw (u 0), SV.vec 1 ao' (List.length ss) cap', SV.ptr 2 bl 0,
                                                  SV.raw (u 3), SV.bool false, SV.ptr 3 q 0, SV.raw (u 6),
                                                  SV.ptr 5 b7 0, SV.ptr 7 b8 0,
                                                  SV.int IntKind.i64 (IntKind.wrap IntKind.i64 (i + (1 : Int))), SV.ptr 8 b 0,
                                                  SV.ptr 9 b_1 0, SV.raw (u 12), SV.raw (u 13),
                                                  SV.raw (u 14), SV.raw (u 15), SV.raw (u 16), SV.raw (u 17),
                                                  SV.raw (u 18), SV.raw (u 19), SV.raw (u 20), SV.raw (u 21),
                                                  SV.raw (u 22), SV.raw (u 23), SV.raw (u 24), SV.raw (u 25),
                                                  SV.raw (u 26), SV.raw (u 27), SV.raw (u 28), SV.raw (u 29),
                                                  SV.raw (u 30), SV.raw (u 31), SV.raw (u 32), SV.raw (u 33),
                                                  SV.raw (u 34), SV.raw (u 35), SV.raw (u 36), SV.raw (u 37),
                                                  SV.raw (u 38), SV.raw (u 39), SV.raw (u 40), SV.raw (u 41),
                                                  SV.raw (u 42), SV.raw (u 43), SV.raw (u 44), SV.raw (u 45),
                                                  SV.raw (u 46), SV.raw (u 47), SV.int IntKind.i64 i,
                                                  SV.vec 1 ao' (List.length ss) cap', SV.int IntKind.i64 (↑(List.length ss) : Int),
                                                  SV.bool true, SV.int IntKind.i64 i, SV.int IntKind.i64 (IntKind.wrap IntKind.i64 (i + (1 : Int))),
                                                  SV.vec 1 ao' (List.length ss) cap', SV.int IntKind.i64 i,
                                                  SV.eptr 1 (Addr.blkD ao') (Addr.offD ao') 1 (Int.toNat i) 0,
                                                  SV.int IntKind.u8 (List.getD ss (Int.toNat i) (0 : Int)),
                                                  SV.int IntKind.i64 (IntKind.wrap IntKind.i64 (List.getD ss (Int.toNat i) (0 : Int))),
                                                  SV.vec 0 ao (List.length bs) cap, SV.int IntKind.i64 (↑(List.length bs) : Int),
                                                  SV.int IntKind.i64 (IntKind.wrap IntKind.i64 ((↑(List.length bs) : Int) + (1 : Int))),
                                                  SV.int IntKind.i64
                                                   (Int.tmod (IntKind.wrap IntKind.i64 (List.getD ss (Int.toNat i) (0 : Int)))
                                                    (IntKind.wrap IntKind.i64 ((↑(List.length bs) : Int) + (1 : Int)))),
                                                  SV.ptr 3 q 0, SV.func (Fn.func 87) [] [SV.ptr 10 b_2 0],
                                                  SV.func (Fn.func 56) []
                                                   [SV.ptr 7 b8 0, SV.ptr 9 b_1 0, SV.ptr 5 b7 0,
                                                    SV.ptr 8 b 0],
                                                  SV.tuple [], SV.bool o_1, SV.bool true, SV.ptr 3 q 0,
                                                  SV.int IntKind.i64 (↑(List.length xs_1) : Int), SV.vec 0 ao_1 (List.length bs_1) cap_1,
                                                  SV.int IntKind.i64 (↑(List.length bs_1) : Int),
                                                  SV.bool ((↑(List.length xs_1) : Int) == (↑(List.length bs_1) : Int)),
                                                  SV.bool ((↑(List.length xs_1) : Int) == (↑(List.length bs_1) : Int)), SV.bool true,
                                                  SV.int IntKind.i64 (↑(atF (List.length xs_1) (Int.toNat n)) : Int), SV.int IntKind.i64 n,
                                                  SV.bool ((↑(atF (List.length xs_1) (Int.toNat n)) : Int) == n), SV.bool false,
                                                  SV.int IntKind.i64 n, SV.bool (n == (0 : Int)), SV.bool true,
                                                  SV.int IntKind.i64 (↑(atF (List.length xs_1) (Int.toNat n)) : Int),
                                                  SV.bool (decide ((↑(atF (List.length xs_1) (Int.toNat n)) : Int) ≤ (1 : Int))),
                                                  SV.bool (decide ((↑(atF (List.length xs_1) (Int.toNat n)) : Int) ≤ (1 : Int))),
                                                  SV.bool (decide ((↑(atF (List.length xs_1) (Int.toNat n)) : Int) ≤ (1 : Int))),
                                                  SV.bool (decide ((↑(atF (List.length xs_1) (Int.toNat n)) : Int) ≤ (1 : Int))),
                                                  SV.raw (u 88), SV.raw (u 89), SV.raw (u 90), SV.raw (u 91),
                                                  SV.raw (u 92), SV.raw (u 93), SV.raw (u 94), SV.raw (u 95),
                                                  SV.raw (u 96), SV.raw (u 97), SV.raw (u 98), SV.raw (u 99),
                                                  SV.raw (u 100), SV.raw (u 101), SV.raw (u 102), SV.raw (u 103),
                                                  SV.raw (u 104), SV.raw (u 105), SV.raw (u 106), SV.raw (u 107),
                                                  SV.raw (u 108), SV.raw (u 109), SV.raw (u 110), SV.raw (u 111),
                                                  SV.raw (u 112)]
                                                 [Ent.mk (Loc.sl ao_1 cap_1) (SObj.roL 1 encI16 bs_1 (0 : Int)),
                                                  Ent.mk (Loc.sl ao'_1 cap'_1) (SObj.roL 1 encU8 ss_1 (0 : Int)),
                                                  Ent.mk (Loc.blk bl_1) (SObj.cells [SV.vec 0 ao_1 (List.length bs_1) cap_1] (75 : TypeId)),
                                                  Ent.mk (Loc.blk q_1)
                                                   (SObj.cells
                                                    [SV.vec 4 aoq_1 (List.length xs_1) capq_1, SV.func (Fn.func (53 : FuncId)) [] [],
                                                     SV.int IntKind.i64 na_1]
                                                    (146 : TypeId)),
                                                  Ent.mk (Loc.sl aoq_1 capq_1)
                                                   (SObj.vecL (149 : TypeId) 2 encItI xs_1 ((0 : Int), (0 : Int))),
                                                  Ent.mk (Loc.blk b7) (SObj.cells [SV.vec 6 aof_1 (List.length xs_1) capf_1] (39 : TypeId)),
                                                  Ent.mk (Loc.sl aof_1 capf_1)
                                                   (SObj.vecL (3 : TypeId) 1 encI1 (firsts xs_1 (List.length xs_1)) (0 : Int)),
                                                  Ent.mk (Loc.blk b8)
                                                   (SObj.cells [SV.bool (decide ((↑(atF (List.length xs_1) (Int.toNat n)) : Int) ≤ (1 : Int)))]
                                                    (4 : TypeId)),
                                                  Ent.mk (Loc.blk b) (SObj.cells [SV.int IntKind.i64 n] (3 : TypeId)),
                                                  Ent.mk (Loc.blk b_1)
                                                   (SObj.cells [SV.int IntKind.i64 (↑(atF (List.length xs_1) (Int.toNat n)) : Int)] (3 : TypeId))])
                                            | false =>
                                             (b8 = b8 ∧ true = true ∧ 1 = 1 ∧ 1 ≤ 1) ∧
                                              K
                                               (Frm.loop J ::
                                                Frm.blk 2 ::
                                                 frm [] (bodyOf Try.f12)
                                                  [1, 1, 1, 1, 1, 1, 1, 1,
                                                   1]
                                                  [])
                                               (Sy.mk
                                                [SV.raw (u 0), SV.vec 1 ao' (List.length ss) cap', SV.ptr 2 bl 0,
                                                 SV.raw (u 3), SV.bool false, SV.ptr 3 q 0, SV.raw (u 6),
                                                 SV.ptr 5 b7 0, SV.ptr 7 b8 0,
                                                 SV.int IntKind.i64 (IntKind.wrap IntKind.i64 (i + (1 : Int))), SV.ptr 8 b 0,
                                                 SV.ptr 9 b_1 0, SV.raw (u 12), SV.raw (u 13), SV.raw (u 14),
                                                 SV.raw (u 15), SV.raw (u 16), SV.raw (u 17), SV.raw (u 18),
                                                 SV.raw (u 19), SV.raw (u 20), SV.raw (u 21), SV.raw (u 22),
                                                 SV.raw (u 23), SV.raw (u 24), SV.raw (u 25), SV.raw (u 26),
                                                 SV.raw (u 27), SV.raw (u 28), SV.raw (u 29), SV.raw (u 30),
                                                 SV.raw (u 31), SV.raw (u 32), SV.raw (u 33), SV.raw (u 34),
                                                 SV.raw (u 35), SV.raw (u 36), SV.raw (u 37), SV.raw (u 38),
                                                 SV.raw (u 39), SV.raw (u 40), SV.raw (u 41), SV.raw (u 42),
                                                 SV.raw (u 43), SV.raw (u 44), SV.raw (u 45), SV.raw (u 46),
                                                 SV.raw (u 47), SV.int IntKind.i64 i, SV.vec 1 ao' (List.length ss) cap',
                                                 SV.int IntKind.i64 (↑(List.length ss) : Int), SV.bool true, SV.int IntKind.i64 i,
                                                 SV.int IntKind.i64 (IntKind.wrap IntKind.i64 (i + (1 : Int))),
                                                 SV.vec 1 ao' (List.length ss) cap', SV.int IntKind.i64 i,
                                                 SV.eptr 1 (Addr.blkD ao') (Addr.offD ao') 1 (Int.toNat i) 0,
                                                 SV.int IntKind.u8 (List.getD ss (Int.toNat i) (0 : Int)),
                                                 SV.int IntKind.i64 (IntKind.wrap IntKind.i64 (List.getD ss (Int.toNat i) (0 : Int))),
                                                 SV.vec 0 ao (List.length bs) cap, SV.int IntKind.i64 (↑(List.length bs) : Int),
                                                 SV.int IntKind.i64 (IntKind.wrap IntKind.i64 ((↑(List.length bs) : Int) + (1 : Int))),
                                                 SV.int IntKind.i64
                                                  (Int.tmod (IntKind.wrap IntKind.i64 (List.getD ss (Int.toNat i) (0 : Int)))
                                                   (IntKind.wrap IntKind.i64 ((↑(List.length bs) : Int) + (1 : Int)))),
                                                 SV.ptr 3 q 0, SV.func (Fn.func 87) [] [SV.ptr 10 b_2 0],
                                                 SV.func (Fn.func 56) []
                                                  [SV.ptr 7 b8 0, SV.ptr 9 b_1 0, SV.ptr 5 b7 0,
                                                   SV.ptr 8 b 0],
                                                 SV.tuple [], SV.bool o_1, SV.bool true, SV.ptr 3 q 0,
                                                 SV.int IntKind.i64 (↑(List.length xs_1) : Int), SV.vec 0 ao_1 (List.length bs_1) cap_1,
                                                 SV.int IntKind.i64 (↑(List.length bs_1) : Int),
                                                 SV.bool ((↑(List.length xs_1) : Int) == (↑(List.length bs_1) : Int)),
                                                 SV.bool ((↑(List.length xs_1) : Int) == (↑(List.length bs_1) : Int)), SV.bool true,
                                                 SV.int IntKind.i64 (↑(atF (List.length xs_1) (Int.toNat n)) : Int), SV.int IntKind.i64 n,
                                                 SV.bool ((↑(atF (List.length xs_1) (Int.toNat n)) : Int) == n), SV.bool false, SV.int IntKind.i64 n,
                                                 SV.bool (n == (0 : Int)), SV.bool false, SV.raw (Value.tuple #[]), SV.raw (Value.tuple #[]),
                                                 SV.bool false, SV.bool false, SV.bool false, SV.raw (u 88), SV.raw (u 89),
                                                 SV.raw (u 90), SV.raw (u 91), SV.raw (u 92), SV.raw (u 93),
                                                 SV.raw (u 94), SV.raw (u 95), SV.raw (u 96), SV.raw (u 97),
                                                 SV.raw (u 98), SV.raw (u 99), SV.raw (u 100), SV.raw (u 101),
                                                 SV.raw (u 102), SV.raw (u 103), SV.raw (u 104), SV.raw (u 105),
                                                 SV.raw (u 106), SV.raw (u 107), SV.raw (u 108), SV.raw (u 109),
                                                 SV.raw (u 110), SV.raw (u 111), SV.raw (u 112)]
                                                [Ent.mk (Loc.sl ao_1 cap_1) (SObj.roL 1 encI16 bs_1 (0 : Int)),
                                                 Ent.mk (Loc.sl ao'_1 cap'_1) (SObj.roL 1 encU8 ss_1 (0 : Int)),
                                                 Ent.mk (Loc.blk bl_1) (SObj.cells [SV.vec 0 ao_1 (List.length bs_1) cap_1] (75 : TypeId)),
                                                 Ent.mk (Loc.blk q_1)
                                                  (SObj.cells
                                                   [SV.vec 4 aoq_1 (List.length xs_1) capq_1, SV.func (Fn.func (53 : FuncId)) [] [],
                                                    SV.int IntKind.i64 na_1]
                                                   (146 : TypeId)),
                                                 Ent.mk (Loc.sl aoq_1 capq_1)
                                                  (SObj.vecL (149 : TypeId) 2 encItI xs_1 ((0 : Int), (0 : Int))),
                                                 Ent.mk (Loc.blk b7) (SObj.cells [SV.vec 6 aof_1 (List.length xs_1) capf_1] (39 : TypeId)),
                                                 Ent.mk (Loc.sl aof_1 capf_1)
                                                  (SObj.vecL (3 : TypeId) 1 encI1 (firsts xs_1 (List.length xs_1)) (0 : Int)),
                                                 Ent.mk (Loc.blk b8) (SObj.cells [SV.bool false] (4 : TypeId)),
                                                 Ent.mk (Loc.blk b) (SObj.cells [SV.int IntKind.i64 n] (3 : TypeId)),
                                                 Ent.mk (Loc.blk b_1)
                                                  (SObj.cells [SV.int IntKind.i64 (↑(atF (List.length xs_1) (Int.toNat n)) : Int)] (3 : TypeId))])
                                       | false =>
                                        true = true ∧
                                         true = true ∧
                                          true = true ∧
                                           true = true ∧
                                            true = true ∧
                                             true = true ∧
                                              (b8 = b8 ∧ true = true ∧ 1 = 1 ∧ 1 ≤ 1) ∧
                                               K
                                                (Frm.loop J ::
                                                 Frm.blk 2 ::
                                                  frm [] (bodyOf Try.f12)
                                                   [1, 1, 1, 1, 1, 1, 1, 1,
                                                    1]
                                                   [])
                                                (Sy.mk
                                                 [SV.raw (u 0), SV.vec 1 ao' (List.length ss) cap', SV.ptr 2 bl 0,
                                                  SV.raw (u 3), SV.bool false, SV.ptr 3 q 0, SV.raw (u 6),
                                                  SV.ptr 5 b7 0, SV.ptr 7 b8 0,
                                                  SV.int IntKind.i64 (IntKind.wrap IntKind.i64 (i + (1 : Int))), SV.ptr 8 b 0,
                                                  SV.ptr 9 b_1 0, SV.raw (u 12), SV.raw (u 13),
                                                  SV.raw (u 14), SV.raw (u 15), SV.raw (u 16), SV.raw (u 17),
                                                  SV.raw (u 18), SV.raw (u 19), SV.raw (u 20), SV.raw (u 21),
                                                  SV.raw (u 22), SV.raw (u 23), SV.raw (u 24), SV.raw (u 25),
                                                  SV.raw (u 26), SV.raw (u 27), SV.raw (u 28), SV.raw (u 29),
                                                  SV.raw (u 30), SV.raw (u 31), SV.raw (u 32), SV.raw (u 33),
                                                  SV.raw (u 34), SV.raw (u 35), SV.raw (u 36), SV.raw (u 37),
                                                  SV.raw (u 38), SV.raw (u 39), SV.raw (u 40), SV.raw (u 41),
                                                  SV.raw (u 42), SV.raw (u 43), SV.raw (u 44), SV.raw (u 45),
                                                  SV.raw (u 46), SV.raw (u 47), SV.int IntKind.i64 i,
                                                  SV.vec 1 ao' (List.length ss) cap', SV.int IntKind.i64 (↑(List.length ss) : Int),
                                                  SV.bool true, SV.int IntKind.i64 i, SV.int IntKind.i64 (IntKind.wrap IntKind.i64 (i + (1 : Int))),
                                                  SV.vec 1 ao' (List.length ss) cap', SV.int IntKind.i64 i,
                                                  SV.eptr 1 (Addr.blkD ao') (Addr.offD ao') 1 (Int.toNat i) 0,
                                                  SV.int IntKind.u8 (List.getD ss (Int.toNat i) (0 : Int)),
                                                  SV.int IntKind.i64 (IntKind.wrap IntKind.i64 (List.getD ss (Int.toNat i) (0 : Int))),
                                                  SV.vec 0 ao (List.length bs) cap, SV.int IntKind.i64 (↑(List.length bs) : Int),
                                                  SV.int IntKind.i64 (IntKind.wrap IntKind.i64 ((↑(List.length bs) : Int) + (1 : Int))),
                                                  SV.int IntKind.i64
                                                   (Int.tmod (IntKind.wrap IntKind.i64 (List.getD ss (Int.toNat i) (0 : Int)))
                                                    (IntKind.wrap IntKind.i64 ((↑(List.length bs) : Int) + (1 : Int)))),
                                                  SV.ptr 3 q 0, SV.func (Fn.func 87) [] [SV.ptr 10 b_2 0],
                                                  SV.func (Fn.func 56) []
                                                   [SV.ptr 7 b8 0, SV.ptr 9 b_1 0, SV.ptr 5 b7 0,
                                                    SV.ptr 8 b 0],
                                                  SV.tuple [], SV.bool o_1, SV.bool true, SV.ptr 3 q 0,
                                                  SV.int IntKind.i64 (↑(List.length xs_1) : Int), SV.vec 0 ao_1 (List.length bs_1) cap_1,
                                                  SV.int IntKind.i64 (↑(List.length bs_1) : Int),
                                                  SV.bool ((↑(List.length xs_1) : Int) == (↑(List.length bs_1) : Int)),
                                                  SV.bool ((↑(List.length xs_1) : Int) == (↑(List.length bs_1) : Int)), SV.bool false,
                                                  SV.raw (Value.tuple #[]), SV.raw (Value.tuple #[]), SV.raw (Value.tuple #[]),
                                                  SV.raw (Value.tuple #[]), SV.raw (Value.tuple #[]), SV.raw (Value.tuple #[]),
                                                  SV.raw (Value.tuple #[]), SV.raw (Value.tuple #[]), SV.raw (Value.tuple #[]),
                                                  SV.raw (Value.tuple #[]), SV.raw (Value.tuple #[]), SV.bool false, SV.raw (u 88),
                                                  SV.raw (u 89), SV.raw (u 90), SV.raw (u 91), SV.raw (u 92),
                                                  SV.raw (u 93), SV.raw (u 94), SV.raw (u 95), SV.raw (u 96),
                                                  SV.raw (u 97), SV.raw (u 98), SV.raw (u 99), SV.raw (u 100),
                                                  SV.raw (u 101), SV.raw (u 102), SV.raw (u 103), SV.raw (u 104),
                                                  SV.raw (u 105), SV.raw (u 106), SV.raw (u 107), SV.raw (u 108),
                                                  SV.raw (u 109), SV.raw (u 110), SV.raw (u 111), SV.raw (u 112)]
                                                 [Ent.mk (Loc.sl ao_1 cap_1) (SObj.roL 1 encI16 bs_1 (0 : Int)),
                                                  Ent.mk (Loc.sl ao'_1 cap'_1) (SObj.roL 1 encU8 ss_1 (0 : Int)),
                                                  Ent.mk (Loc.blk bl_1) (SObj.cells [SV.vec 0 ao_1 (List.length bs_1) cap_1] (75 : TypeId)),
                                                  Ent.mk (Loc.blk q_1)
                                                   (SObj.cells
                                                    [SV.vec 4 aoq_1 (List.length xs_1) capq_1, SV.func (Fn.func (53 : FuncId)) [] [],
                                                     SV.int IntKind.i64 na_1]
                                                    (146 : TypeId)),
                                                  Ent.mk (Loc.sl aoq_1 capq_1)
                                                   (SObj.vecL (149 : TypeId) 2 encItI xs_1 ((0 : Int), (0 : Int))),
                                                  Ent.mk (Loc.blk b7) (SObj.cells [SV.vec 6 aof_1 (List.length xs_1) capf_1] (39 : TypeId)),
                                                  Ent.mk (Loc.sl aof_1 capf_1)
                                                   (SObj.vecL (3 : TypeId) 1 encI1 (firsts xs_1 (List.length xs_1)) (0 : Int)),
                                                  Ent.mk (Loc.blk b8) (SObj.cells [SV.bool false] (4 : TypeId)),
                                                  Ent.mk (Loc.blk b) (SObj.cells [SV.int IntKind.i64 n] (3 : TypeId)),
                                                  Ent.mk (Loc.blk b_1)
                                                   (SObj.cells [SV.int IntKind.i64 (↑(atF (List.length xs_1) (Int.toNat n)) : Int)]
                                                    (3 : TypeId))])) ∧
                                       match (↑(List.length xs_1) : Int) == (↑(List.length bs_1) : Int) with
                                       | true =>
                                        b = b ∧
                                         b_1 = b_1 ∧
                                          match (↑(atF (List.length xs_1) (Int.toNat n)) : Int) == n with
                                          | true =>
                                           true = true ∧
                                            true = true ∧
                                             (b8 = b8 ∧ true = true ∧ 1 = 1 ∧ 1 ≤ 1) ∧
                                              K
                                               (Frm.loop J ::
                                                Frm.blk 2 ::
                                                 frm [] (bodyOf Try.f12)
                                                  [1, 1, 1, 1, 1, 1, 1, 1,
                                                   1]
                                                  [])
                                               (Sy.mk
                                                [SV.raw (u 0), SV.vec 1 ao' (List.length ss) cap', SV.ptr 2 bl 0,
                                                 SV.raw (u 3), SV.bool false, SV.ptr 3 q 0, SV.raw (u 6),
                                                 SV.ptr 5 b7 0, SV.ptr 7 b8 0,
                                                 SV.int IntKind.i64 (IntKind.wrap IntKind.i64 (i + (1 : Int))), SV.ptr 8 b 0,
                                                 SV.ptr 9 b_1 0, SV.raw (u 12), SV.raw (u 13), SV.raw (u 14),
                                                 SV.raw (u 15), SV.raw (u 16), SV.raw (u 17), SV.raw (u 18),
                                                 SV.raw (u 19), SV.raw (u 20), SV.raw (u 21), SV.raw (u 22),
                                                 SV.raw (u 23), SV.raw (u 24), SV.raw (u 25), SV.raw (u 26),
                                                 SV.raw (u 27), SV.raw (u 28), SV.raw (u 29), SV.raw (u 30),
                                                 SV.raw (u 31), SV.raw (u 32), SV.raw (u 33), SV.raw (u 34),
                                                 SV.raw (u 35), SV.raw (u 36), SV.raw (u 37), SV.raw (u 38),
                                                 SV.raw (u 39), SV.raw (u 40), SV.raw (u 41), SV.raw (u 42),
                                                 SV.raw (u 43), SV.raw (u 44), SV.raw (u 45), SV.raw (u 46),
                                                 SV.raw (u 47), SV.int IntKind.i64 i, SV.vec 1 ao' (List.length ss) cap',
                                                 SV.int IntKind.i64 (↑(List.length ss) : Int), SV.bool true, SV.int IntKind.i64 i,
                                                 SV.int IntKind.i64 (IntKind.wrap IntKind.i64 (i + (1 : Int))),
                                                 SV.vec 1 ao' (List.length ss) cap', SV.int IntKind.i64 i,
                                                 SV.eptr 1 (Addr.blkD ao') (Addr.offD ao') 1 (Int.toNat i) 0,
                                                 SV.int IntKind.u8 (List.getD ss (Int.toNat i) (0 : Int)),
                                                 SV.int IntKind.i64 (IntKind.wrap IntKind.i64 (List.getD ss (Int.toNat i) (0 : Int))),
                                                 SV.vec 0 ao (List.length bs) cap, SV.int IntKind.i64 (↑(List.length bs) : Int),
                                                 SV.int IntKind.i64 (IntKind.wrap IntKind.i64 ((↑(List.length bs) : Int) + (1 : Int))),
                                                 SV.int IntKind.i64
                                                  (Int.tmod (IntKind.wrap IntKind.i64 (List.getD ss (Int.toNat i) (0 : Int)))
                                                   (IntKind.wrap IntKind.i64 ((↑(List.length bs) : Int) + (1 : Int)))),
                                                 SV.ptr 3 q 0, SV.func (Fn.func 87) [] [SV.ptr 10 b_2 0],
                                                 SV.func (Fn.func 56) []
                                                  [SV.ptr 7 b8 0, SV.ptr 9 b_1 0, SV.ptr 5 b7 0,
                                                   SV.ptr 8 b 0],
                                                 SV.tuple [], SV.bool o_1, SV.bool true, SV.ptr 3 q 0,
                                                 SV.int IntKind.i64 (↑(List.length xs_1) : Int), SV.vec 0 ao_1 (List.length bs_1) cap_1,
                                                 SV.int IntKind.i64 (↑(List.length bs_1) : Int),
                                                 SV.bool ((↑(List.length xs_1) : Int) == (↑(List.length bs_1) : Int)),
                                                 SV.bool ((↑(List.length xs_1) : Int) == (↑(List.length bs_1) : Int)), SV.bool true,
                                                 SV.int IntKind.i64 (↑(atF (List.length xs_1) (Int.toNat n)) : Int), SV.int IntKind.i64 n,
                                                 SV.bool ((↑(atF (List.length xs_1) (Int.toNat n)) : Int) == n), SV.bool true,
                                                 SV.raw (Value.tuple #[]), SV.raw (Value.tuple #[]), SV.raw (Value.tuple #[]),
                                                 SV.raw (Value.tuple #[]), SV.raw (Value.tuple #[]), SV.raw (Value.tuple #[]), SV.bool true,
                                                 SV.bool true, SV.raw (u 88), SV.raw (u 89), SV.raw (u 90),
                                                 SV.raw (u 91), SV.raw (u 92), SV.raw (u 93), SV.raw (u 94),
                                                 SV.raw (u 95), SV.raw (u 96), SV.raw (u 97), SV.raw (u 98),
                                                 SV.raw (u 99), SV.raw (u 100), SV.raw (u 101), SV.raw (u 102),
                                                 SV.raw (u 103), SV.raw (u 104), SV.raw (u 105), SV.raw (u 106),
                                                 SV.raw (u 107), SV.raw (u 108), SV.raw (u 109), SV.raw (u 110),
                                                 SV.raw (u 111), SV.raw (u 112)]
                                                [Ent.mk (Loc.sl ao_1 cap_1) (SObj.roL 1 encI16 bs_1 (0 : Int)),
                                                 Ent.mk (Loc.sl ao'_1 cap'_1) (SObj.roL 1 encU8 ss_1 (0 : Int)),
                                                 Ent.mk (Loc.blk bl_1) (SObj.cells [SV.vec 0 ao_1 (List.length bs_1) cap_1] (75 : TypeId)),
                                                 Ent.mk (Loc.blk q_1)
                                                  (SObj.cells
                                                   [SV.vec 4 aoq_1 (List.length xs_1) capq_1, SV.func (Fn.func (53 : FuncId)) [] [],
                                                    SV.int IntKind.i64 na_1]
                                                   (146 : TypeId)),
                                                 Ent.mk (Loc.sl aoq_1 capq_1)
                                                  (SObj.vecL (149 : TypeId) 2 encItI xs_1 ((0 : Int), (0 : Int))),
                                                 Ent.mk (Loc.blk b7) (SObj.cells [SV.vec 6 aof_1 (List.length xs_1) capf_1] (39 : TypeId)),
                                                 Ent.mk (Loc.sl aof_1 capf_1)
                                                  (SObj.vecL (3 : TypeId) 1 encI1 (firsts xs_1 (List.length xs_1)) (0 : Int)),
                                                 Ent.mk (Loc.blk b8) (SObj.cells [SV.bool true] (4 : TypeId)),
                                                 Ent.mk (Loc.blk b) (SObj.cells [SV.int IntKind.i64 n] (3 : TypeId)),
                                                 Ent.mk (Loc.blk b_1)
                                                  (SObj.cells [SV.int IntKind.i64 (↑(atF (List.length xs_1) (Int.toNat n)) : Int)] (3 : TypeId))])
                                          | false =>
                                           b = b ∧
                                            match n == (0 : Int) with
                                            | true =>
                                             b_1 = b_1 ∧
                                              (b8 = b8 ∧ true = true ∧ 1 = 1 ∧ 1 ≤ 1) ∧
                                               K
                                                (Frm.loop J ::
                                                 Frm.blk 2 ::
                                                  frm [] (bodyOf Try.f12)
                                                   [1, 1, 1, 1, 1, 1, 1, 1,
                                                    1]
                                                   [])
                                                (Sy.mk
                                                 [SV.raw (u 0), SV.vec 1 ao' (List.length ss) cap', SV.ptr 2 bl 0,
                                                  SV.raw (u 3), SV.bool false, SV.ptr 3 q 0, SV.raw (u 6),
                                                  SV.ptr 5 b7 0, SV.ptr 7 b8 0,
                                                  SV.int IntKind.i64 (IntKind.wrap IntKind.i64 (i + (1 : Int))), SV.ptr 8 b 0,
                                                  SV.ptr 9 b_1 0, SV.raw (u 12), SV.raw (u 13),
                                                  SV.raw (u 14), SV.raw (u 15), SV.raw (u 16), SV.raw (u 17),
                                                  SV.raw (u 18), SV.raw (u 19), SV.raw (u 20), SV.raw (u 21),
                                                  SV.raw (u 22), SV.raw (u 23), SV.raw (u 24), SV.raw (u 25),
                                                  SV.raw (u 26), SV.raw (u 27), SV.raw (u 28), SV.raw (u 29),
                                                  SV.raw (u 30), SV.raw (u 31), SV.raw (u 32), SV.raw (u 33),
                                                  SV.raw (u 34), SV.raw (u 35), SV.raw (u 36), SV.raw (u 37),
                                                  SV.raw (u 38), SV.raw (u 39), SV.raw (u 40), SV.raw (u 41),
                                                  SV.raw (u 42), SV.raw (u 43), SV.raw (u 44), SV.raw (u 45),
                                                  SV.raw (u 46), SV.raw (u 47), SV.int IntKind.i64 i,
                                                  SV.vec 1 ao' (List.length ss) cap', SV.int IntKind.i64 (↑(List.length ss) : Int),
                                                  SV.bool true, SV.int IntKind.i64 i, SV.int IntKind.i64 (IntKind.wrap IntKind.i64 (i + (1 : Int))),
                                                  SV.vec 1 ao' (List.length ss) cap', SV.int IntKind.i64 i,
                                                  SV.eptr 1 (Addr.blkD ao') (Addr.offD ao') 1 (Int.toNat i) 0,
                                                  SV.int IntKind.u8 (List.getD ss (Int.toNat i) (0 : Int)),
                                                  SV.int IntKind.i64 (IntKind.wrap IntKind.i64 (List.getD ss (Int.toNat i) (0 : Int))),
                                                  SV.vec 0 ao (List.length bs) cap, SV.int IntKind.i64 (↑(List.length bs) : Int),
                                                  SV.int IntKind.i64 (IntKind.wrap IntKind.i64 ((↑(List.length bs) : Int) + (1 : Int))),
                                                  SV.int IntKind.i64
                                                   (Int.tmod (IntKind.wrap IntKind.i64 (List.getD ss (Int.toNat i) (0 : Int)))
                                                    (IntKind.wrap IntKind.i64 ((↑(List.length bs) : Int) + (1 : Int)))),
                                                  SV.ptr 3 q 0, SV.func (Fn.func 87) [] [SV.ptr 10 b_2 0],
                                                  SV.func (Fn.func 56) []
                                                   [SV.ptr 7 b8 0, SV.ptr 9 b_1 0, SV.ptr 5 b7 0,
                                                    SV.ptr 8 b 0],
                                                  SV.tuple [], SV.bool o_1, SV.bool true, SV.ptr 3 q 0,
                                                  SV.int IntKind.i64 (↑(List.length xs_1) : Int), SV.vec 0 ao_1 (List.length bs_1) cap_1,
                                                  SV.int IntKind.i64 (↑(List.length bs_1) : Int),
                                                  SV.bool ((↑(List.length xs_1) : Int) == (↑(List.length bs_1) : Int)),
                                                  SV.bool ((↑(List.length xs_1) : Int) == (↑(List.length bs_1) : Int)), SV.bool true,
                                                  SV.int IntKind.i64 (↑(atF (List.length xs_1) (Int.toNat n)) : Int), SV.int IntKind.i64 n,
                                                  SV.bool ((↑(atF (List.length xs_1) (Int.toNat n)) : Int) == n), SV.bool false,
                                                  SV.int IntKind.i64 n, SV.bool (n == (0 : Int)), SV.bool true,
                                                  SV.int IntKind.i64 (↑(atF (List.length xs_1) (Int.toNat n)) : Int),
                                                  SV.bool (decide ((↑(atF (List.length xs_1) (Int.toNat n)) : Int) ≤ (1 : Int))),
                                                  SV.bool (decide ((↑(atF (List.length xs_1) (Int.toNat n)) : Int) ≤ (1 : Int))),
                                                  SV.bool (decide ((↑(atF (List.length xs_1) (Int.toNat n)) : Int) ≤ (1 : Int))),
                                                  SV.bool (decide ((↑(atF (List.length xs_1) (Int.toNat n)) : Int) ≤ (1 : Int))),
                                                  SV.raw (u 88), SV.raw (u 89), SV.raw (u 90), SV.raw (u 91),
                                                  SV.raw (u 92), SV.raw (u 93), SV.raw (u 94), SV.raw (u 95),
                                                  SV.raw (u 96), SV.raw (u 97), SV.raw (u 98), SV.raw (u 99),
                                                  SV.raw (u 100), SV.raw (u 101), SV.raw (u 102), SV.raw (u 103),
                                                  SV.raw (u 104), SV.raw (u 105), SV.raw (u 106), SV.raw (u 107),
                                                  SV.raw (u 108), SV.raw (u 109), SV.raw (u 110), SV.raw (u 111),
                                                  SV.raw (u 112)]
                                                 [Ent.mk (Loc.sl ao_1 cap_1) (SObj.roL 1 encI16 bs_1 (0 : Int)),
                                                  Ent.mk (Loc.sl ao'_1 cap'_1) (SObj.roL 1 encU8 ss_1 (0 : Int)),
                                                  Ent.mk (Loc.blk bl_1) (SObj.cells [SV.vec 0 ao_1 (List.length bs_1) cap_1] (75 : TypeId)),
                                                  Ent.mk (Loc.blk q_1)
                                                   (SObj.cells
                                                    [SV.vec 4 aoq_1 (List.length xs_1) capq_1, SV.func (Fn.func (53 : FuncId)) [] [],
                                                     SV.int IntKind.i64 na_1]
                                                    (146 : TypeId)),
                                                  Ent.mk (Loc.sl aoq_1 capq_1)
                                                   (SObj.vecL (149 : TypeId) 2 encItI xs_1 ((0 : Int), (0 : Int))),
                                                  Ent.mk (Loc.blk b7) (SObj.cells [SV.vec 6 aof_1 (List.length xs_1) capf_1] (39 : TypeId)),
                                                  Ent.mk (Loc.sl aof_1 capf_1)
                                                   (SObj.vecL (3 : TypeId) 1 encI1 (firsts xs_1 (List.length xs_1)) (0 : Int)),
                                                  Ent.mk (Loc.blk b8)
                                                   (SObj.cells [SV.bool (decide ((↑(atF (List.length xs_1) (Int.toNat n)) : Int) ≤ (1 : Int)))]
                                                    (4 : TypeId)),
                                                  Ent.mk (Loc.blk b) (SObj.cells [SV.int IntKind.i64 n] (3 : TypeId)),
                                                  Ent.mk (Loc.blk b_1)
                                                   (SObj.cells [SV.int IntKind.i64 (↑(atF (List.length xs_1) (Int.toNat n)) : Int)] (3 : TypeId))])
                                            | false =>
                                             (b8 = b8 ∧ true = true ∧ 1 = 1 ∧ 1 ≤ 1) ∧
                                              K
                                               (Frm.loop J ::
                                                Frm.blk 2 ::
                                                 frm [] (bodyOf Try.f12)
                                                  [1, 1, 1, 1, 1, 1, 1, 1,
                                                   1]
                                                  [])
                                               (Sy.mk
                                                [SV.raw (u 0), SV.vec 1 ao' (List.length ss) cap', SV.ptr 2 bl 0,
                                                 SV.raw (u 3), SV.bool false, SV.ptr 3 q 0, SV.raw (u 6),
                                                 SV.ptr 5 b7 0, SV.ptr 7 b8 0,
                                                 SV.int IntKind.i64 (IntKind.wrap IntKind.i64 (i + (1 : Int))), SV.ptr 8 b 0,
                                                 SV.ptr 9 b_1 0, SV.raw (u 12), SV.raw (u 13), SV.raw (u 14),
                                                 SV.raw (u 15), SV.raw (u 16), SV.raw (u 17), SV.raw (u 18),
                                                 SV.raw (u 19), SV.raw (u 20), SV.raw (u 21), SV.raw (u 22),
                                                 SV.raw (u 23), SV.raw (u 24), SV.raw (u 25), SV.raw (u 26),
                                                 SV.raw (u 27), SV.raw (u 28), SV.raw (u 29), SV.raw (u 30),
                                                 SV.raw (u 31), SV.raw (u 32), SV.raw (u 33), SV.raw (u 34),
                                                 SV.raw (u 35), SV.raw (u 36), SV.raw (u 37), SV.raw (u 38),
                                                 SV.raw (u 39), SV.raw (u 40), SV.raw (u 41), SV.raw (u 42),
                                                 SV.raw (u 43), SV.raw (u 44), SV.raw (u 45), SV.raw (u 46),
                                                 SV.raw (u 47), SV.int IntKind.i64 i, SV.vec 1 ao' (List.length ss) cap',
                                                 SV.int IntKind.i64 (↑(List.length ss) : Int), SV.bool true, SV.int IntKind.i64 i,
                                                 SV.int IntKind.i64 (IntKind.wrap IntKind.i64 (i + (1 : Int))),
                                                 SV.vec 1 ao' (List.length ss) cap', SV.int IntKind.i64 i,
                                                 SV.eptr 1 (Addr.blkD ao') (Addr.offD ao') 1 (Int.toNat i) 0,
                                                 SV.int IntKind.u8 (List.getD ss (Int.toNat i) (0 : Int)),
                                                 SV.int IntKind.i64 (IntKind.wrap IntKind.i64 (List.getD ss (Int.toNat i) (0 : Int))),
                                                 SV.vec 0 ao (List.length bs) cap, SV.int IntKind.i64 (↑(List.length bs) : Int),
                                                 SV.int IntKind.i64 (IntKind.wrap IntKind.i64 ((↑(List.length bs) : Int) + (1 : Int))),
                                                 SV.int IntKind.i64
                                                  (Int.tmod (IntKind.wrap IntKind.i64 (List.getD ss (Int.toNat i) (0 : Int)))
                                                   (IntKind.wrap IntKind.i64 ((↑(List.length bs) : Int) + (1 : Int)))),
                                                 SV.ptr 3 q 0, SV.func (Fn.func 87) [] [SV.ptr 10 b_2 0],
                                                 SV.func (Fn.func 56) []
                                                  [SV.ptr 7 b8 0, SV.ptr 9 b_1 0, SV.ptr 5 b7 0,
                                                   SV.ptr 8 b 0],
                                                 SV.tuple [], SV.bool o_1, SV.bool true, SV.ptr 3 q 0,
                                                 SV.int IntKind.i64 (↑(List.length xs_1) : Int), SV.vec 0 ao_1 (List.length bs_1) cap_1,
                                                 SV.int IntKind.i64 (↑(List.length bs_1) : Int),
                                                 SV.bool ((↑(List.length xs_1) : Int) == (↑(List.length bs_1) : Int)),
                                                 SV.bool ((↑(List.length xs_1) : Int) == (↑(List.length bs_1) : Int)), SV.bool true,
                                                 SV.int IntKind.i64 (↑(atF (List.length xs_1) (Int.toNat n)) : Int), SV.int IntKind.i64 n,
                                                 SV.bool ((↑(atF (List.length xs_1) (Int.toNat n)) : Int) == n), SV.bool false, SV.int IntKind.i64 n,
                                                 SV.bool (n == (0 : Int)), SV.bool false, SV.raw (Value.tuple #[]), SV.raw (Value.tuple #[]),
                                                 SV.bool false, SV.bool false, SV.bool false, SV.raw (u 88), SV.raw (u 89),
                                                 SV.raw (u 90), SV.raw (u 91), SV.raw (u 92), SV.raw (u 93),
                                                 SV.raw (u 94), SV.raw (u 95), SV.raw (u 96), SV.raw (u 97),
                                                 SV.raw (u 98), SV.raw (u 99), SV.raw (u 100), SV.raw (u 101),
                                                 SV.raw (u 102), SV.raw (u 103), SV.raw (u 104), SV.raw (u 105),
                                                 SV.raw (u 106), SV.raw (u 107), SV.raw (u 108), SV.raw (u 109),
                                                 SV.raw (u 110), SV.raw (u 111), SV.raw (u 112)]
                                                [Ent.mk (Loc.sl ao_1 cap_1) (SObj.roL 1 encI16 bs_1 (0 : Int)),
                                                 Ent.mk (Loc.sl ao'_1 cap'_1) (SObj.roL 1 encU8 ss_1 (0 : Int)),
                                                 Ent.mk (Loc.blk bl_1) (SObj.cells [SV.vec 0 ao_1 (List.length bs_1) cap_1] (75 : TypeId)),
                                                 Ent.mk (Loc.blk q_1)
                                                  (SObj.cells
                                                   [SV.vec 4 aoq_1 (List.length xs_1) capq_1, SV.func (Fn.func (53 : FuncId)) [] [],
                                                    SV.int IntKind.i64 na_1]
                                                   (146 : TypeId)),
                                                 Ent.mk (Loc.sl aoq_1 capq_1)
                                                  (SObj.vecL (149 : TypeId) 2 encItI xs_1 ((0 : Int), (0 : Int))),
                                                 Ent.mk (Loc.blk b7) (SObj.cells [SV.vec 6 aof_1 (List.length xs_1) capf_1] (39 : TypeId)),
                                                 Ent.mk (Loc.sl aof_1 capf_1)
                                                  (SObj.vecL (3 : TypeId) 1 encI1 (firsts xs_1 (List.length xs_1)) (0 : Int)),
                                                 Ent.mk (Loc.blk b8) (SObj.cells [SV.bool false] (4 : TypeId)),
                                                 Ent.mk (Loc.blk b) (SObj.cells [SV.int IntKind.i64 n] (3 : TypeId)),
                                                 Ent.mk (Loc.blk b_1)
                                                  (SObj.cells [SV.int IntKind.i64 (↑(atF (List.length xs_1) (Int.toNat n)) : Int)] (3 : TypeId))])
                                       | false =>
                                        true = true ∧
                                         true = true ∧
                                          true = true ∧
                                           true = true ∧
                                            true = true ∧
                                             true = true ∧
                                              (b8 = b8 ∧ true = true ∧ 1 = 1 ∧ 1 ≤ 1) ∧
                                               K
                                                (Frm.loop J ::
                                                 Frm.blk 2 ::
                                                  frm [] (bodyOf Try.f12)
                                                   [1, 1, 1, 1, 1, 1, 1, 1,
                                                    1]
                                                   [])
                                                (Sy.mk
                                                 [SV.raw (u 0), SV.vec 1 ao' (List.length ss) cap', SV.ptr 2 bl 0,
                                                  SV.raw (u 3), SV.bool false, SV.ptr 3 q 0, SV.raw (u 6),
                                                  SV.ptr 5 b7 0, SV.ptr 7 b8 0,
                                                  SV.int IntKind.i64 (IntKind.wrap IntKind.i64 (i + (1 : Int))), SV.ptr 8 b 0,
                                                  SV.ptr 9 b_1 0, SV.raw (u 12), SV.raw (u 13),
                                                  SV.raw (u 14), SV.raw (u 15), SV.raw (u 16), SV.raw (u 17),
                                                  SV.raw (u 18), SV.raw (u 19), SV.raw (u 20), SV.raw (u 21),
                                                  SV.raw (u 22), SV.raw (u 23), SV.raw (u 24), SV.raw (u 25),
                                                  SV.raw (u 26), SV.raw (u 27), SV.raw (u 28), SV.raw (u 29),
                                                  SV.raw (u 30), SV.raw (u 31), SV.raw (u 32), SV.raw (u 33),
                                                  SV.raw (u 34), SV.raw (u 35), SV.raw (u 36), SV.raw (u 37),
                                                  SV.raw (u 38), SV.raw (u 39), SV.raw (u 40), SV.raw (u 41),
                                                  SV.raw (u 42), SV.raw (u 43), SV.raw (u 44), SV.raw (u 45),
                                                  SV.raw (u 46), SV.raw (u 47), SV.int IntKind.i64 i,
                                                  SV.vec 1 ao' (List.length ss) cap', SV.int IntKind.i64 (↑(List.length ss) : Int),
                                                  SV.bool true, SV.int IntKind.i64 i, SV.int IntKind.i64 (IntKind.wrap IntKind.i64 (i + (1 : Int))),
                                                  SV.vec 1 ao' (List.length ss) cap', SV.int IntKind.i64 i,
                                                  SV.eptr 1 (Addr.blkD ao') (Addr.offD ao') 1 (Int.toNat i) 0,
                                                  SV.int IntKind.u8 (List.getD ss (Int.toNat i) (0 : Int)),
                                                  SV.int IntKind.i64 (IntKind.wrap IntKind.i64 (List.getD ss (Int.toNat i) (0 : Int))),
                                                  SV.vec 0 ao (List.length bs) cap, SV.int IntKind.i64 (↑(List.length bs) : Int),
                                                  SV.int IntKind.i64 (IntKind.wrap IntKind.i64 ((↑(List.length bs) : Int) + (1 : Int))),
                                                  SV.int IntKind.i64
                                                   (Int.tmod (IntKind.wrap IntKind.i64 (List.getD ss (Int.toNat i) (0 : Int)))
                                                    (IntKind.wrap IntKind.i64 ((↑(List.length bs) : Int) + (1 : Int)))),
                                                  SV.ptr 3 q 0, SV.func (Fn.func 87) [] [SV.ptr 10 b_2 0],
                                                  SV.func (Fn.func 56) []
                                                   [SV.ptr 7 b8 0, SV.ptr 9 b_1 0, SV.ptr 5 b7 0,
                                                    SV.ptr 8 b 0],
                                                  SV.tuple [], SV.bool o_1, SV.bool true, SV.ptr 3 q 0,
                                                  SV.int IntKind.i64 (↑(List.length xs_1) : Int), SV.vec 0 ao_1 (List.length bs_1) cap_1,
                                                  SV.int IntKind.i64 (↑(List.length bs_1) : Int),
                                                  SV.bool ((↑(List.length xs_1) : Int) == (↑(List.length bs_1) : Int)),
                                                  SV.bool ((↑(List.length xs_1) : Int) == (↑(List.length bs_1) : Int)), SV.bool false,
                                                  SV.raw (Value.tuple #[]), SV.raw (Value.tuple #[]), SV.raw (Value.tuple #[]),
                                                  SV.raw (Value.tuple #[]), SV.raw (Value.tuple #[]), SV.raw (Value.tuple #[]),
                                                  SV.raw (Value.tuple #[]), SV.raw (Value.tuple #[]), SV.raw (Value.tuple #[]),
                                                  SV.raw (Value.tuple #[]), SV.raw (Value.tuple #[]), SV.bool false, SV.raw (u 88),
                                                  SV.raw (u 89), SV.raw (u 90), SV.raw (u 91), SV.raw (u 92),
                                                  SV.raw (u 93), SV.raw (u 94), SV.raw (u 95), SV.raw (u 96),
                                                  SV.raw (u 97), SV.raw (u 98), SV.raw (u 99), SV.raw (u 100),
                                                  SV.raw (u 101), SV.raw (u 102), SV.raw (u 103), SV.raw (u 104),
                                                  SV.raw (u 105), SV.raw (u 106), SV.raw (u 107), SV.raw (u 108),
                                                  SV.raw (u 109), SV.raw (u 110), SV.raw (u 111), SV.raw (u 112)]
                                                 [Ent.mk (Loc.sl ao_1 cap_1) (SObj.roL 1 encI16 bs_1 (0 : Int)),
                                                  Ent.mk (Loc.sl ao'_1 cap'_1) (SObj.roL 1 encU8 ss_1 (0 : Int)),
                                                  Ent.mk (Loc.blk bl_1) (SObj.cells [SV.vec 0 ao_1 (List.length bs_1) cap_1] (75 : TypeId)),
                                                  Ent.mk (Loc.blk q_1)
                                                   (SObj.cells
                                                    [SV.vec 4 aoq_1 (List.length xs_1) capq_1, SV.func (Fn.func (53 : FuncId)) [] [],
                                                     SV.int IntKind.i64 na_1]
                                                    (146 : TypeId)),
                                                  Ent.mk (Loc.sl aoq_1 capq_1)
                                                   (SObj.vecL (149 : TypeId) 2 encItI xs_1 ((0 : Int), (0 : Int))),
                                                  Ent.mk (Loc.blk b7) (SObj.cells [SV.vec 6 aof_1 (List.length xs_1) capf_1] (39 : TypeId)),
                                                  Ent.mk (Loc.sl aof_1 capf_1)
                                                   (SObj.vecL (3 : TypeId) 1 encI1 (firsts xs_1 (List.length xs_1)) (0 : Int)),
                                                  Ent.mk (Loc.blk b8) (SObj.cells [SV.bool false] (4 : TypeId)),
                                                  Ent.mk (Loc.blk b) (SObj.cells [SV.int IntKind.i64 n] (3 : TypeId)),
                                                  Ent.mk (Loc.blk b_1)
                                                   (SObj.cells [SV.int IntKind.i64 (↑(atF (List.length xs_1) (Int.toNat n)) : Int)]
                                                    (3 : TypeId))])) ∧
                                    bl_1 = bl ∧
                                     (true = true ∧
                                      q_1 = q ∧
                                       (match (↑(List.length xs_1) : Int) == (↑(List.length bs_1) : Int) with
                                        | true =>
                                         b_1 = b_1 ∧
                                          b = b ∧
                                           match (↑(atF (List.length xs_1) (Int.toNat n)) : Int) == n with
                                           | true =>
                                            true = true ∧
                                             true = true ∧
                                              (b8 = b8 ∧ true = true ∧ 1 = 1 ∧ 1 ≤ 1) ∧
                                               K
                                                (Frm.loop J ::
                                                 Frm.blk 2 ::
                                                  frm [] (bodyOf Try.f12)
                                                   [1, 1, 1, 1, 1, 1, 1, 1,
                                                    1]
                                                   [])
                                                (Sy.mk
                                                 [SV.raw (u 0), SV.vec 1 ao' (List.length ss) cap', SV.ptr 2 bl 0,
                                                  SV.raw (u 3), SV.bool false, SV.ptr 3 q 0, SV.raw (u 6),
                                                  SV.ptr 5 b7 0, SV.ptr 7 b8 0,
                                                  SV.int IntKind.i64 (IntKind.wrap IntKind.i64 (i + (1 : Int))), SV.ptr 8 b 0,
                                                  SV.ptr 9 b_1 0, SV.raw (u 12), SV.raw (u 13),
                                                  SV.raw (u 14), SV.raw (u 15), SV.raw (u 16), SV.raw (u 17),
                                                  SV.raw (u 18), SV.raw (u 19), SV.raw (u 20), SV.raw (u 21),
                                                  SV.raw (u 22), SV.raw (u 23), SV.raw (u 24), SV.raw (u 25),
                                                  SV.raw (u 26), SV.raw (u 27), SV.raw (u 28), SV.raw (u 29),
                                                  SV.raw (u 30), SV.raw (u 31), SV.raw (u 32), SV.raw (u 33),
                                                  SV.raw (u 34), SV.raw (u 35), SV.raw (u 36), SV.raw (u 37),
                                                  SV.raw (u 38), SV.raw (u 39), SV.raw (u 40), SV.raw (u 41),
                                                  SV.raw (u 42), SV.raw (u 43), SV.raw (u 44), SV.raw (u 45),
                                                  SV.raw (u 46), SV.raw (u 47), SV.int IntKind.i64 i,
                                                  SV.vec 1 ao' (List.length ss) cap', SV.int IntKind.i64 (↑(List.length ss) : Int),
                                                  SV.bool true, SV.int IntKind.i64 i, SV.int IntKind.i64 (IntKind.wrap IntKind.i64 (i + (1 : Int))),
                                                  SV.vec 1 ao' (List.length ss) cap', SV.int IntKind.i64 i,
                                                  SV.eptr 1 (Addr.blkD ao') (Addr.offD ao') 1 (Int.toNat i) 0,
                                                  SV.int IntKind.u8 (List.getD ss (Int.toNat i) (0 : Int)),
                                                  SV.int IntKind.i64 (IntKind.wrap IntKind.i64 (List.getD ss (Int.toNat i) (0 : Int))),
                                                  SV.vec 0 ao (List.length bs) cap, SV.int IntKind.i64 (↑(List.length bs) : Int),
                                                  SV.int IntKind.i64 (IntKind.wrap IntKind.i64 ((↑(List.length bs) : Int) + (1 : Int))),
                                                  SV.int IntKind.i64
                                                   (Int.tmod (IntKind.wrap IntKind.i64 (List.getD ss (Int.toNat i) (0 : Int)))
                                                    (IntKind.wrap IntKind.i64 ((↑(List.length bs) : Int) + (1 : Int)))),
                                                  SV.ptr 3 q 0, SV.func (Fn.func 87) [] [SV.ptr 10 b_2 0],
                                                  SV.func (Fn.func 56) []
                                                   [SV.ptr 7 b8 0, SV.ptr 9 b_1 0, SV.ptr 5 b7 0,
                                                    SV.ptr 8 b 0],
                                                  SV.tuple [], SV.bool o_1, SV.bool true, SV.ptr 3 q 0,
                                                  SV.int IntKind.i64 (↑(List.length xs_1) : Int), SV.vec 0 ao_1 (List.length bs_1) cap_1,
                                                  SV.int IntKind.i64 (↑(List.length bs_1) : Int),
                                                  SV.bool ((↑(List.length xs_1) : Int) == (↑(List.length bs_1) : Int)),
                                                  SV.bool ((↑(List.length xs_1) : Int) == (↑(List.length bs_1) : Int)), SV.bool true,
                                                  SV.int IntKind.i64 (↑(atF (List.length xs_1) (Int.toNat n)) : Int), SV.int IntKind.i64 n,
                                                  SV.bool ((↑(atF (List.length xs_1) (Int.toNat n)) : Int) == n), SV.bool true,
                                                  SV.raw (Value.tuple #[]), SV.raw (Value.tuple #[]), SV.raw (Value.tuple #[]),
                                                  SV.raw (Value.tuple #[]), SV.raw (Value.tuple #[]), SV.raw (Value.tuple #[]), SV.bool true,
                                                  SV.bool true, SV.raw (u 88), SV.raw (u 89), SV.raw (u 90),
                                                  SV.raw (u 91), SV.raw (u 92), SV.raw (u 93), SV.raw (u 94),
                                                  SV.raw (u 95), SV.raw (u 96), SV.raw (u 97), SV.raw (u 98),
                                                  SV.raw (u 99), SV.raw (u 100), SV.raw (u 101), SV.raw (u 102),
                                                  SV.raw (u 103), SV.raw (u 104), SV.raw (u 105), SV.raw (u 106),
                                                  SV.raw (u 107), SV.raw (u 108), SV.raw (u 109), SV.raw (u 110),
                                                  SV.raw (u 111), SV.raw (u 112)]
                                                 [Ent.mk (Loc.sl ao_1 cap_1) (SObj.roL 1 encI16 bs_1 (0 : Int)),
                                                  Ent.mk (Loc.sl ao'_1 cap'_1) (SObj.roL 1 encU8 ss_1 (0 : Int)),
                                                  Ent.mk (Loc.blk bl_1) (SObj.cells [SV.vec 0 ao_1 (List.length bs_1) cap_1] (75 : TypeId)),
                                                  Ent.mk (Loc.blk q_1)
                                                   (SObj.cells
                                                    [SV.vec 4 aoq_1 (List.length xs_1) capq_1, SV.func (Fn.func (53 : FuncId)) [] [],
                                                     SV.int IntKind.i64 na_1]
                                                    (146 : TypeId)),
                                                  Ent.mk (Loc.sl aoq_1 capq_1)
                                                   (SObj.vecL (149 : TypeId) 2 encItI xs_1 ((0 : Int), (0 : Int))),
                                                  Ent.mk (Loc.blk b7) (SObj.cells [SV.vec 6 aof_1 (List.length xs_1) capf_1] (39 : TypeId)),
                                                  Ent.mk (Loc.sl aof_1 capf_1)
                                                   (SObj.vecL (3 : TypeId) 1 encI1 (firsts xs_1 (List.length xs_1)) (0 : Int)),
                                                  Ent.mk (Loc.blk b8) (SObj.cells [SV.bool true] (4 : TypeId)),
                                                  Ent.mk (Loc.blk b) (SObj.cells [SV.int IntKind.i64 n] (3 : TypeId)),
                                                  Ent.mk (Loc.blk b_1)
                                                   (SObj.cells [SV.int IntKind.i64 (↑(atF (List.length xs_1) (Int.toNat n)) : Int)] (3 : TypeId))])
                                           | false =>
                                            b = b ∧
                                             match n == (0 : Int) with
                                             | true =>
                                              b_1 = b_1 ∧
                                               (b8 = b8 ∧ true = true ∧ 1 = 1 ∧ 1 ≤ 1) ∧
                                                K
                                                 (Frm.loop J ::
                                                  Frm.blk 2 ::
                                                   frm [] (bodyOf Try.f12)
                                                    [1, 1, 1, 1, 1, 1, 1, 1,
                                                     1]
                                                    [])
                                                 (Sy.mk
                                                  [SV.raw (u 0), SV.vec 1 ao' (List.length ss) cap', SV.ptr 2 bl 0,
                                                   SV.raw (u 3), SV.bool false, SV.ptr 3 q 0, SV.raw (u 6),
                                                   SV.ptr 5 b7 0, SV.ptr 7 b8 0,
                                                   SV.int IntKind.i64 (IntKind.wrap IntKind.i64 (i + (1 : Int))), SV.ptr 8 b 0,
                                                   SV.ptr 9 b_1 0, SV.raw (u 12), SV.raw (u 13),
                                                   SV.raw (u 14), SV.raw (u 15), SV.raw (u 16), SV.raw (u 17),
                                                   SV.raw (u 18), SV.raw (u 19), SV.raw (u 20), SV.raw (u 21),
                                                   SV.raw (u 22), SV.raw (u 23), SV.raw (u 24), SV.raw (u 25),
                                                   SV.raw (u 26), SV.raw (u 27), SV.raw (u 28), SV.raw (u 29),
                                                   SV.raw (u 30), SV.raw (u 31), SV.raw (u 32), SV.raw (u 33),
                                                   SV.raw (u 34), SV.raw (u 35), SV.raw (u 36), SV.raw (u 37),
                                                   SV.raw (u 38), SV.raw (u 39), SV.raw (u 40), SV.raw (u 41),
                                                   SV.raw (u 42), SV.raw (u 43), SV.raw (u 44), SV.raw (u 45),
                                                   SV.raw (u 46), SV.raw (u 47), SV.int IntKind.i64 i,
                                                   SV.vec 1 ao' (List.length ss) cap', SV.int IntKind.i64 (↑(List.length ss) : Int),
                                                   SV.bool true, SV.int IntKind.i64 i,
                                                   SV.int IntKind.i64 (IntKind.wrap IntKind.i64 (i + (1 : Int))),
                                                   SV.vec 1 ao' (List.length ss) cap', SV.int IntKind.i64 i,
                                                   SV.eptr 1 (Addr.blkD ao') (Addr.offD ao') 1 (Int.toNat i) 0,
                                                   SV.int IntKind.u8 (List.getD ss (Int.toNat i) (0 : Int)),
                                                   SV.int IntKind.i64 (IntKind.wrap IntKind.i64 (List.getD ss (Int.toNat i) (0 : Int))),
                                                   SV.vec 0 ao (List.length bs) cap, SV.int IntKind.i64 (↑(List.length bs) : Int),
                                                   SV.int IntKind.i64 (IntKind.wrap IntKind.i64 ((↑(List.length bs) : Int) + (1 : Int))),
                                                   SV.int IntKind.i64
                                                    (Int.tmod (IntKind.wrap IntKind.i64 (List.getD ss (Int.toNat i) (0 : Int)))
                                                     (IntKind.wrap IntKind.i64 ((↑(List.length bs) : Int) + (1 : Int)))),
                                                   SV.ptr 3 q 0, SV.func (Fn.func 87) [] [SV.ptr 10 b_2 0],
                                                   SV.func (Fn.func 56) []
                                                    [SV.ptr 7 b8 0, SV.ptr 9 b_1 0, SV.ptr 5 b7 0,
                                                     SV.ptr 8 b 0],
                                                   SV.tuple [], SV.bool o_1, SV.bool true, SV.ptr 3 q 0,
                                                   SV.int IntKind.i64 (↑(List.length xs_1) : Int), SV.vec 0 ao_1 (List.length bs_1) cap_1,
                                                   SV.int IntKind.i64 (↑(List.length bs_1) : Int),
                                                   SV.bool ((↑(List.length xs_1) : Int) == (↑(List.length bs_1) : Int)),
                                                   SV.bool ((↑(List.length xs_1) : Int) == (↑(List.length bs_1) : Int)), SV.bool true,
                                                   SV.int IntKind.i64 (↑(atF (List.length xs_1) (Int.toNat n)) : Int), SV.int IntKind.i64 n,
                                                   SV.bool ((↑(atF (List.length xs_1) (Int.toNat n)) : Int) == n), SV.bool false,
                                                   SV.int IntKind.i64 n, SV.bool (n == (0 : Int)), SV.bool true,
                                                   SV.int IntKind.i64 (↑(atF (List.length xs_1) (Int.toNat n)) : Int),
                                                   SV.bool (decide ((↑(atF (List.length xs_1) (Int.toNat n)) : Int) ≤ (1 : Int))),
                                                   SV.bool (decide ((↑(atF (List.length xs_1) (Int.toNat n)) : Int) ≤ (1 : Int))),
                                                   SV.bool (decide ((↑(atF (List.length xs_1) (Int.toNat n)) : Int) ≤ (1 : Int))),
                                                   SV.bool (decide ((↑(atF (List.length xs_1) (Int.toNat n)) : Int) ≤ (1 : Int))),
                                                   SV.raw (u 88), SV.raw (u 89), SV.raw (u 90), SV.raw (u 91),
                                                   SV.raw (u 92), SV.raw (u 93), SV.raw (u 94), SV.raw (u 95),
                                                   SV.raw (u 96), SV.raw (u 97), SV.raw (u 98), SV.raw (u 99),
                                                   SV.raw (u 100), SV.raw (u 101), SV.raw (u 102), SV.raw (u 103),
                                                   SV.raw (u 104), SV.raw (u 105), SV.raw (u 106), SV.raw (u 107),
                                                   SV.raw (u 108), SV.raw (u 109), SV.raw (u 110), SV.raw (u 111),
                                                   SV.raw (u 112)]
                                                  [Ent.mk (Loc.sl ao_1 cap_1) (SObj.roL 1 encI16 bs_1 (0 : Int)),
                                                   Ent.mk (Loc.sl ao'_1 cap'_1) (SObj.roL 1 encU8 ss_1 (0 : Int)),
                                                   Ent.mk (Loc.blk bl_1)
                                                    (SObj.cells [SV.vec 0 ao_1 (List.length bs_1) cap_1] (75 : TypeId)),
                                                   Ent.mk (Loc.blk q_1)
                                                    (SObj.cells
                                                     [SV.vec 4 aoq_1 (List.length xs_1) capq_1, SV.func (Fn.func (53 : FuncId)) [] [],
                                                      SV.int IntKind.i64 na_1]
                                                     (146 : TypeId)),
                                                   Ent.mk (Loc.sl aoq_1 capq_1)
                                                    (SObj.vecL (149 : TypeId) 2 encItI xs_1 ((0 : Int), (0 : Int))),
                                                   Ent.mk (Loc.blk b7)
                                                    (SObj.cells [SV.vec 6 aof_1 (List.length xs_1) capf_1] (39 : TypeId)),
                                                   Ent.mk (Loc.sl aof_1 capf_1)
                                                    (SObj.vecL (3 : TypeId) 1 encI1 (firsts xs_1 (List.length xs_1)) (0 : Int)),
                                                   Ent.mk (Loc.blk b8)
                                                    (SObj.cells [SV.bool (decide ((↑(atF (List.length xs_1) (Int.toNat n)) : Int) ≤ (1 : Int)))]
                                                     (4 : TypeId)),
                                                   Ent.mk (Loc.blk b) (SObj.cells [SV.int IntKind.i64 n] (3 : TypeId)),
                                                   Ent.mk (Loc.blk b_1)
                                                    (SObj.cells [SV.int IntKind.i64 (↑(atF (List.length xs_1) (Int.toNat n)) : Int)]
                                                     (3 : TypeId))])
                                             | false =>
                                              (b8 = b8 ∧ true = true ∧ 1 = 1 ∧ 1 ≤ 1) ∧
                                               K
                                                (Frm.loop J ::
                                                 Frm.blk 2 ::
                                                  frm [] (bodyOf Try.f12)
                                                   [1, 1, 1, 1, 1, 1, 1, 1,
                                                    1]
                                                   [])
                                                (Sy.mk
                                                 [SV.raw (u 0), SV.vec 1 ao' (List.length ss) cap', SV.ptr 2 bl 0,
                                                  SV.raw (u 3), SV.bool false, SV.ptr 3 q 0, SV.raw (u 6),
                                                  SV.ptr 5 b7 0, SV.ptr 7 b8 0,
                                                  SV.int IntKind.i64 (IntKind.wrap IntKind.i64 (i + (1 : Int))), SV.ptr 8 b 0,
                                                  SV.ptr 9 b_1 0, SV.raw (u 12), SV.raw (u 13),
                                                  SV.raw (u 14), SV.raw (u 15), SV.raw (u 16), SV.raw (u 17),
                                                  SV.raw (u 18), SV.raw (u 19), SV.raw (u 20), SV.raw (u 21),
                                                  SV.raw (u 22), SV.raw (u 23), SV.raw (u 24), SV.raw (u 25),
                                                  SV.raw (u 26), SV.raw (u 27), SV.raw (u 28), SV.raw (u 29),
                                                  SV.raw (u 30), SV.raw (u 31), SV.raw (u 32), SV.raw (u 33),
                                                  SV.raw (u 34), SV.raw (u 35), SV.raw (u 36), SV.raw (u 37),
                                                  SV.raw (u 38), SV.raw (u 39), SV.raw (u 40), SV.raw (u 41),
                                                  SV.raw (u 42), SV.raw (u 43), SV.raw (u 44), SV.raw (u 45),
                                                  SV.raw (u 46), SV.raw (u 47), SV.int IntKind.i64 i,
                                                  SV.vec 1 ao' (List.length ss) cap', SV.int IntKind.i64 (↑(List.length ss) : Int),
                                                  SV.bool true, SV.int IntKind.i64 i, SV.int IntKind.i64 (IntKind.wrap IntKind.i64 (i + (1 : Int))),
                                                  SV.vec 1 ao' (List.length ss) cap', SV.int IntKind.i64 i,
                                                  SV.eptr 1 (Addr.blkD ao') (Addr.offD ao') 1 (Int.toNat i) 0,
                                                  SV.int IntKind.u8 (List.getD ss (Int.toNat i) (0 : Int)),
                                                  SV.int IntKind.i64 (IntKind.wrap IntKind.i64 (List.getD ss (Int.toNat i) (0 : Int))),
                                                  SV.vec 0 ao (List.length bs) cap, SV.int IntKind.i64 (↑(List.length bs) : Int),
                                                  SV.int IntKind.i64 (IntKind.wrap IntKind.i64 ((↑(List.length bs) : Int) + (1 : Int))),
                                                  SV.int IntKind.i64
                                                   (Int.tmod (IntKind.wrap IntKind.i64 (List.getD ss (Int.toNat i) (0 : Int)))
                                                    (IntKind.wrap IntKind.i64 ((↑(List.length bs) : Int) + (1 : Int)))),
                                                  SV.ptr 3 q 0, SV.func (Fn.func 87) [] [SV.ptr 10 b_2 0],
                                                  SV.func (Fn.func 56) []
                                                   [SV.ptr 7 b8 0, SV.ptr 9 b_1 0, SV.ptr 5 b7 0,
                                                    SV.ptr 8 b 0],
                                                  SV.tuple [], SV.bool o_1, SV.bool true, SV.ptr 3 q 0,
                                                  SV.int IntKind.i64 (↑(List.length xs_1) : Int), SV.vec 0 ao_1 (List.length bs_1) cap_1,
                                                  SV.int IntKind.i64 (↑(List.length bs_1) : Int),
                                                  SV.bool ((↑(List.length xs_1) : Int) == (↑(List.length bs_1) : Int)),
                                                  SV.bool ((↑(List.length xs_1) : Int) == (↑(List.length bs_1) : Int)), SV.bool true,
                                                  SV.int IntKind.i64 (↑(atF (List.length xs_1) (Int.toNat n)) : Int), SV.int IntKind.i64 n,
                                                  SV.bool ((↑(atF (List.length xs_1) (Int.toNat n)) : Int) == n), SV.bool false,
                                                  SV.int IntKind.i64 n, SV.bool (n == (0 : Int)), SV.bool false, SV.raw (Value.tuple #[]),
                                                  SV.raw (Value.tuple #[]), SV.bool false, SV.bool false, SV.bool false, SV.raw (u 88),
                                                  SV.raw (u 89), SV.raw (u 90), SV.raw (u 91), SV.raw (u 92),
                                                  SV.raw (u 93), SV.raw (u 94), SV.raw (u 95), SV.raw (u 96),
                                                  SV.raw (u 97), SV.raw (u 98), SV.raw (u 99), SV.raw (u 100),
                                                  SV.raw (u 101), SV.raw (u 102), SV.raw (u 103), SV.raw (u 104),
                                                  SV.raw (u 105), SV.raw (u 106), SV.raw (u 107), SV.raw (u 108),
                                                  SV.raw (u 109), SV.raw (u 110), SV.raw (u 111), SV.raw (u 112)]
                                                 [Ent.mk (Loc.sl ao_1 cap_1) (SObj.roL 1 encI16 bs_1 (0 : Int)),
                                                  Ent.mk (Loc.sl ao'_1 cap'_1) (SObj.roL 1 encU8 ss_1 (0 : Int)),
                                                  Ent.mk (Loc.blk bl_1) (SObj.cells [SV.vec 0 ao_1 (List.length bs_1) cap_1] (75 : TypeId)),
                                                  Ent.mk (Loc.blk q_1)
                                                   (SObj.cells
                                                    [SV.vec 4 aoq_1 (List.length xs_1) capq_1, SV.func (Fn.func (53 : FuncId)) [] [],
                                                     SV.int IntKind.i64 na_1]
                                                    (146 : TypeId)),
                                                  Ent.mk (Loc.sl aoq_1 capq_1)
                                                   (SObj.vecL (149 : TypeId) 2 encItI xs_1 ((0 : Int), (0 : Int))),
                                                  Ent.mk (Loc.blk b7) (SObj.cells [SV.vec 6 aof_1 (List.length xs_1) capf_1] (39 : TypeId)),
                                                  Ent.mk (Loc.sl aof_1 capf_1)
                                                   (SObj.vecL (3 : TypeId) 1 encI1 (firsts xs_1 (List.length xs_1)) (0 : Int)),
                                                  Ent.mk (Loc.blk b8) (SObj.cells [SV.bool false] (4 : TypeId)),
                                                  Ent.mk (Loc.blk b) (SObj.cells [SV.int IntKind.i64 n] (3 : TypeId)),
                                                  Ent.mk (Loc.blk b_1)
                                                   (SObj.cells [SV.int IntKind.i64 (↑(atF (List.length xs_1) (Int.toNat n)) : Int)] (3 : TypeId))])
                                        | false =>
                                         true = true ∧
                                          true = true ∧
                                           true = true ∧
                                            true = true ∧
                                             true = true ∧
                                              true = true ∧
                                               (b8 = b8 ∧ true = true ∧ 1 = 1 ∧ 1 ≤ 1) ∧
                                                K
                                                 (Frm.loop J ::
                                                  Frm.blk 2 ::
                                                   frm [] (bodyOf Try.f12)
                                                    [1, 1, 1, 1, 1, 1, 1, 1,
                                                     1]
                                                    [])
                                                 (Sy.mk
                                                  [SV.raw (u 0), SV.vec 1 ao' (List.length ss) cap', SV.ptr 2 bl 0,
                                                   SV.raw (u 3), SV.bool false, SV.ptr 3 q 0, SV.raw (u 6),
                                                   SV.ptr 5 b7 0, SV.ptr 7 b8 0,
                                                   SV.int IntKind.i64 (IntKind.wrap IntKind.i64 (i + (1 : Int))), SV.ptr 8 b 0,
                                                   SV.ptr 9 b_1 0, SV.raw (u 12), SV.raw (u 13),
                                                   SV.raw (u 14), SV.raw (u 15), SV.raw (u 16), SV.raw (u 17),
                                                   SV.raw (u 18), SV.raw (u 19), SV.raw (u 20), SV.raw (u 21),
                                                   SV.raw (u 22), SV.raw (u 23), SV.raw (u 24), SV.raw (u 25),
                                                   SV.raw (u 26), SV.raw (u 27), SV.raw (u 28), SV.raw (u 29),
                                                   SV.raw (u 30), SV.raw (u 31), SV.raw (u 32), SV.raw (u 33),
                                                   SV.raw (u 34), SV.raw (u 35), SV.raw (u 36), SV.raw (u 37),
                                                   SV.raw (u 38), SV.raw (u 39), SV.raw (u 40), SV.raw (u 41),
                                                   SV.raw (u 42), SV.raw (u 43), SV.raw (u 44), SV.raw (u 45),
                                                   SV.raw (u 46), SV.raw (u 47), SV.int IntKind.i64 i,
                                                   SV.vec 1 ao' (List.length ss) cap', SV.int IntKind.i64 (↑(List.length ss) : Int),
                                                   SV.bool true, SV.int IntKind.i64 i,
                                                   SV.int IntKind.i64 (IntKind.wrap IntKind.i64 (i + (1 : Int))),
                                                   SV.vec 1 ao' (List.length ss) cap', SV.int IntKind.i64 i,
                                                   SV.eptr 1 (Addr.blkD ao') (Addr.offD ao') 1 (Int.toNat i) 0,
                                                   SV.int IntKind.u8 (List.getD ss (Int.toNat i) (0 : Int)),
                                                   SV.int IntKind.i64 (IntKind.wrap IntKind.i64 (List.getD ss (Int.toNat i) (0 : Int))),
                                                   SV.vec 0 ao (List.length bs) cap, SV.int IntKind.i64 (↑(List.length bs) : Int),
                                                   SV.int IntKind.i64 (IntKind.wrap IntKind.i64 ((↑(List.length bs) : Int) + (1 : Int))),
                                                   SV.int IntKind.i64
                                                    (Int.tmod (IntKind.wrap IntKind.i64 (List.getD ss (Int.toNat i) (0 : Int)))
                                                     (IntKind.wrap IntKind.i64 ((↑(List.length bs) : Int) + (1 : Int)))),
                                                   SV.ptr 3 q 0, SV.func (Fn.func 87) [] [SV.ptr 10 b_2 0],
                                                   SV.func (Fn.func 56) []
                                                    [SV.ptr 7 b8 0, SV.ptr 9 b_1 0, SV.ptr 5 b7 0,
                                                     SV.ptr 8 b 0],
                                                   SV.tuple [], SV.bool o_1, SV.bool true, SV.ptr 3 q 0,
                                                   SV.int IntKind.i64 (↑(List.length xs_1) : Int), SV.vec 0 ao_1 (List.length bs_1) cap_1,
                                                   SV.int IntKind.i64 (↑(List.length bs_1) : Int),
                                                   SV.bool ((↑(List.length xs_1) : Int) == (↑(List.length bs_1) : Int)),
                                                   SV.bool ((↑(List.length xs_1) : Int) == (↑(List.length bs_1) : Int)), SV.bool false,
                                                   SV.raw (Value.tuple #[]), SV.raw (Value.tuple #[]), SV.raw (Value.tuple #[]),
                                                   SV.raw (Value.tuple #[]), SV.raw (Value.tuple #[]), SV.raw (Value.tuple #[]),
                                                   SV.raw (Value.tuple #[]), SV.raw (Value.tuple #[]), SV.raw (Value.tuple #[]),
                                                   SV.raw (Value.tuple #[]), SV.raw (Value.tuple #[]), SV.bool false, SV.raw (u 88),
                                                   SV.raw (u 89), SV.raw (u 90), SV.raw (u 91), SV.raw (u 92),
                                                   SV.raw (u 93), SV.raw (u 94), SV.raw (u 95), SV.raw (u 96),
                                                   SV.raw (u 97), SV.raw (u 98), SV.raw (u 99), SV.raw (u 100),
                                                   SV.raw (u 101), SV.raw (u 102), SV.raw (u 103), SV.raw (u 104),
                                                   SV.raw (u 105), SV.raw (u 106), SV.raw (u 107), SV.raw (u 108),
                                                   SV.raw (u 109), SV.raw (u 110), SV.raw (u 111), SV.raw (u 112)]
                                                  [Ent.mk (Loc.sl ao_1 cap_1) (SObj.roL 1 encI16 bs_1 (0 : Int)),
                                                   Ent.mk (Loc.sl ao'_1 cap'_1) (SObj.roL 1 encU8 ss_1 (0 : Int)),
                                                   Ent.mk (Loc.blk bl_1)
                                                    (SObj.cells [SV.vec 0 ao_1 (List.length bs_1) cap_1] (75 : TypeId)),
                                                   Ent.mk (Loc.blk q_1)
                                                    (SObj.cells
                                                     [SV.vec 4 aoq_1 (List.length xs_1) capq_1, SV.func (Fn.func (53 : FuncId)) [] [],
                                                      SV.int IntKind.i64 na_1]
                                                     (146 : TypeId)),
                                                   Ent.mk (Loc.sl aoq_1 capq_1)
                                                    (SObj.vecL (149 : TypeId) 2 encItI xs_1 ((0 : Int), (0 : Int))),
                                                   Ent.mk (Loc.blk b7)
                                                    (SObj.cells [SV.vec 6 aof_1 (List.length xs_1) capf_1] (39 : TypeId)),
                                                   Ent.mk (Loc.sl aof_1 capf_1)
                                                    (SObj.vecL (3 : TypeId) 1 encI1 (firsts xs_1 (List.length xs_1)) (0 : Int)),
                                                   Ent.mk (Loc.blk b8) (SObj.cells [SV.bool false] (4 : TypeId)),
                                                   Ent.mk (Loc.blk b) (SObj.cells [SV.int IntKind.i64 n] (3 : TypeId)),
                                                   Ent.mk (Loc.blk b_1)
                                                    (SObj.cells [SV.int IntKind.i64 (↑(atF (List.length xs_1) (Int.toNat n)) : Int)]
                                                     (3 : TypeId))])) ∧
                                        match (↑(List.length xs_1) : Int) == (↑(List.length bs_1) : Int) with
                                        | true =>
                                         b = b ∧
                                          b_1 = b_1 ∧
                                           match (↑(atF (List.length xs_1) (Int.toNat n)) : Int) == n with
                                           | true =>
                                            true = true ∧
                                             true = true ∧
                                              (b8 = b8 ∧ true = true ∧ 1 = 1 ∧ 1 ≤ 1) ∧
                                               K
                                                (Frm.loop J ::
                                                 Frm.blk 2 ::
                                                  frm [] (bodyOf Try.f12)
                                                   [1, 1, 1, 1, 1, 1, 1, 1,
                                                    1]
                                                   [])
                                                (Sy.mk
                                                 [SV.raw (u 0), SV.vec 1 ao' (List.length ss) cap', SV.ptr 2 bl 0,
                                                  SV.raw (u 3), SV.bool false, SV.ptr 3 q 0, SV.raw (u 6),
                                                  SV.ptr 5 b7 0, SV.ptr 7 b8 0,
                                                  SV.int IntKind.i64 (IntKind.wrap IntKind.i64 (i + (1 : Int))), SV.ptr 8 b 0,
                                                  SV.ptr 9 b_1 0, SV.raw (u 12), SV.raw (u 13),
                                                  SV.raw (u 14), SV.raw (u 15), SV.raw (u 16), SV.raw (u 17),
                                                  SV.raw (u 18), SV.raw (u 19), SV.raw (u 20), SV.raw (u 21),
                                                  SV.raw (u 22), SV.raw (u 23), SV.raw (u 24), SV.raw (u 25),
                                                  SV.raw (u 26), SV.raw (u 27), SV.raw (u 28), SV.raw (u 29),
                                                  SV.raw (u 30), SV.raw (u 31), SV.raw (u 32), SV.raw (u 33),
                                                  SV.raw (u 34), SV.raw (u 35), SV.raw (u 36), SV.raw (u 37),
                                                  SV.raw (u 38), SV.raw (u 39), SV.raw (u 40), SV.raw (u 41),
                                                  SV.raw (u 42), SV.raw (u 43), SV.raw (u 44), SV.raw (u 45),
                                                  SV.raw (u 46), SV.raw (u 47), SV.int IntKind.i64 i,
                                                  SV.vec 1 ao' (List.length ss) cap', SV.int IntKind.i64 (↑(List.length ss) : Int),
                                                  SV.bool true, SV.int IntKind.i64 i, SV.int IntKind.i64 (IntKind.wrap IntKind.i64 (i + (1 : Int))),
                                                  SV.vec 1 ao' (List.length ss) cap', SV.int IntKind.i64 i,
                                                  SV.eptr 1 (Addr.blkD ao') (Addr.offD ao') 1 (Int.toNat i) 0,
                                                  SV.int IntKind.u8 (List.getD ss (Int.toNat i) (0 : Int)),
                                                  SV.int IntKind.i64 (IntKind.wrap IntKind.i64 (List.getD ss (Int.toNat i) (0 : Int))),
                                                  SV.vec 0 ao (List.length bs) cap, SV.int IntKind.i64 (↑(List.length bs) : Int),
                                                  SV.int IntKind.i64 (IntKind.wrap IntKind.i64 ((↑(List.length bs) : Int) + (1 : Int))),
                                                  SV.int IntKind.i64
                                                   (Int.tmod (IntKind.wrap IntKind.i64 (List.getD ss (Int.toNat i) (0 : Int)))
                                                    (IntKind.wrap IntKind.i64 ((↑(List.length bs) : Int) + (1 : Int)))),
                                                  SV.ptr 3 q 0, SV.func (Fn.func 87) [] [SV.ptr 10 b_2 0],
                                                  SV.func (Fn.func 56) []
                                                   [SV.ptr 7 b8 0, SV.ptr 9 b_1 0, SV.ptr 5 b7 0,
                                                    SV.ptr 8 b 0],
                                                  SV.tuple [], SV.bool o_1, SV.bool true, SV.ptr 3 q 0,
                                                  SV.int IntKind.i64 (↑(List.length xs_1) : Int), SV.vec 0 ao_1 (List.length bs_1) cap_1,
                                                  SV.int IntKind.i64 (↑(List.length bs_1) : Int),
                                                  SV.bool ((↑(List.length xs_1) : Int) == (↑(List.length bs_1) : Int)),
                                                  SV.bool ((↑(List.length xs_1) : Int) == (↑(List.length bs_1) : Int)), SV.bool true,
                                                  SV.int IntKind.i64 (↑(atF (List.length xs_1) (Int.toNat n)) : Int), SV.int IntKind.i64 n,
                                                  SV.bool ((↑(atF (List.length xs_1) (Int.toNat n)) : Int) == n), SV.bool true,
                                                  SV.raw (Value.tuple #[]), SV.raw (Value.tuple #[]), SV.raw (Value.tuple #[]),
                                                  SV.raw (Value.tuple #[]), SV.raw (Value.tuple #[]), SV.raw (Value.tuple #[]), SV.bool true,
                                                  SV.bool true, SV.raw (u 88), SV.raw (u 89), SV.raw (u 90),
                                                  SV.raw (u 91), SV.raw (u 92), SV.raw (u 93), SV.raw (u 94),
                                                  SV.raw (u 95), SV.raw (u 96), SV.raw (u 97), SV.raw (u 98),
                                                  SV.raw (u 99), SV.raw (u 100), SV.raw (u 101), SV.raw (u 102),
                                                  SV.raw (u 103), SV.raw (u 104), SV.raw (u 105), SV.raw (u 106),
                                                  SV.raw (u 107), SV.raw (u 108), SV.raw (u 109), SV.raw (u 110),
                                                  SV.raw (u 111), SV.raw (u 112)]
                                                 [Ent.mk (Loc.sl ao_1 cap_1) (SObj.roL 1 encI16 bs_1 (0 : Int)),
                                                  Ent.mk (Loc.sl ao'_1 cap'_1) (SObj.roL 1 encU8 ss_1 (0 : Int)),
                                                  Ent.mk (Loc.blk bl_1) (SObj.cells [SV.vec 0 ao_1 (List.length bs_1) cap_1] (75 : TypeId)),
                                                  Ent.mk (Loc.blk q_1)
                                                   (SObj.cells
                                                    [SV.vec 4 aoq_1 (List.length xs_1) capq_1, SV.func (Fn.func (53 : FuncId)) [] [],
                                                     SV.int IntKind.i64 na_1]
                                                    (146 : TypeId)),
                                                  Ent.mk (Loc.sl aoq_1 capq_1)
                                                   (SObj.vecL (149 : TypeId) 2 encItI xs_1 ((0 : Int), (0 : Int))),
                                                  Ent.mk (Loc.blk b7) (SObj.cells [SV.vec 6 aof_1 (List.length xs_1) capf_1] (39 : TypeId)),
                                                  Ent.mk (Loc.sl aof_1 capf_1)
                                                   (SObj.vecL (3 : TypeId) 1 encI1 (firsts xs_1 (List.length xs_1)) (0 : Int)),
                                                  Ent.mk (Loc.blk b8) (SObj.cells [SV.bool true] (4 : TypeId)),
                                                  Ent.mk (Loc.blk b) (SObj.cells [SV.int IntKind.i64 n] (3 : TypeId)),
                                                  Ent.mk (Loc.blk b_1)
                                                   (SObj.cells [SV.int IntKind.i64 (↑(atF (List.length xs_1) (Int.toNat n)) : Int)] (3 : TypeId))])
                                           | false =>
                                            b = b ∧
                                             match n == (0 : Int) with
                                             | true =>
                                              b_1 = b_1 ∧
                                               (b8 = b8 ∧ true = true ∧ 1 = 1 ∧ 1 ≤ 1) ∧
                                                K
                                                 (Frm.loop J ::
                                                  Frm.blk 2 ::
                                                   frm [] (bodyOf Try.f12)
                                                    [1, 1, 1, 1, 1, 1, 1, 1,
                                                     1]
                                                    [])
                                                 (Sy.mk
                                                  [SV.raw (u 0), SV.vec 1 ao' (List.length ss) cap', SV.ptr 2 bl 0,
                                                   SV.raw (u 3), SV.bool false, SV.ptr 3 q 0, SV.raw (u 6),
                                                   SV.ptr 5 b7 0, SV.ptr 7 b8 0,
                                                   SV.int IntKind.i64 (IntKind.wrap IntKind.i64 (i + (1 : Int))), SV.ptr 8 b 0,
                                                   SV.ptr 9 b_1 0, SV.raw (u 12), SV.raw (u 13),
                                                   SV.raw (u 14), SV.raw (u 15), SV.raw (u 16), SV.raw (u 17),
                                                   SV.raw (u 18), SV.raw (u 19), SV.raw (u 20), SV.raw (u 21),
                                                   SV.raw (u 22), SV.raw (u 23), SV.raw (u 24), SV.raw (u 25),
                                                   SV.raw (u 26), SV.raw (u 27), SV.raw (u 28), SV.raw (u 29),
                                                   SV.raw (u 30), SV.raw (u 31), SV.raw (u 32), SV.raw (u 33),
                                                   SV.raw (u 34), SV.raw (u 35), SV.raw (u 36), SV.raw (u 37),
                                                   SV.raw (u 38), SV.raw (u 39), SV.raw (u 40), SV.raw (u 41),
                                                   SV.raw (u 42), SV.raw (u 43), SV.raw (u 44), SV.raw (u 45),
                                                   SV.raw (u 46), SV.raw (u 47), SV.int IntKind.i64 i,
                                                   SV.vec 1 ao' (List.length ss) cap', SV.int IntKind.i64 (↑(List.length ss) : Int),
                                                   SV.bool true, SV.int IntKind.i64 i,
                                                   SV.int IntKind.i64 (IntKind.wrap IntKind.i64 (i + (1 : Int))),
                                                   SV.vec 1 ao' (List.length ss) cap', SV.int IntKind.i64 i,
                                                   SV.eptr 1 (Addr.blkD ao') (Addr.offD ao') 1 (Int.toNat i) 0,
                                                   SV.int IntKind.u8 (List.getD ss (Int.toNat i) (0 : Int)),
                                                   SV.int IntKind.i64 (IntKind.wrap IntKind.i64 (List.getD ss (Int.toNat i) (0 : Int))),
                                                   SV.vec 0 ao (List.length bs) cap, SV.int IntKind.i64 (↑(List.length bs) : Int),
                                                   SV.int IntKind.i64 (IntKind.wrap IntKind.i64 ((↑(List.length bs) : Int) + (1 : Int))),
                                                   SV.int IntKind.i64
                                                    (Int.tmod (IntKind.wrap IntKind.i64 (List.getD ss (Int.toNat i) (0 : Int)))
                                                     (IntKind.wrap IntKind.i64 ((↑(List.length bs) : Int) + (1 : Int)))),
                                                   SV.ptr 3 q 0, SV.func (Fn.func 87) [] [SV.ptr 10 b_2 0],
                                                   SV.func (Fn.func 56) []
                                                    [SV.ptr 7 b8 0, SV.ptr 9 b_1 0, SV.ptr 5 b7 0,
                                                     SV.ptr 8 b 0],
                                                   SV.tuple [], SV.bool o_1, SV.bool true, SV.ptr 3 q 0,
                                                   SV.int IntKind.i64 (↑(List.length xs_1) : Int), SV.vec 0 ao_1 (List.length bs_1) cap_1,
                                                   SV.int IntKind.i64 (↑(List.length bs_1) : Int),
                                                   SV.bool ((↑(List.length xs_1) : Int) == (↑(List.length bs_1) : Int)),
                                                   SV.bool ((↑(List.length xs_1) : Int) == (↑(List.length bs_1) : Int)), SV.bool true,
                                                   SV.int IntKind.i64 (↑(atF (List.length xs_1) (Int.toNat n)) : Int), SV.int IntKind.i64 n,
                                                   SV.bool ((↑(atF (List.length xs_1) (Int.toNat n)) : Int) == n), SV.bool false,
                                                   SV.int IntKind.i64 n, SV.bool (n == (0 : Int)), SV.bool true,
                                                   SV.int IntKind.i64 (↑(atF (List.length xs_1) (Int.toNat n)) : Int),
                                                   SV.bool (decide ((↑(atF (List.length xs_1) (Int.toNat n)) : Int) ≤ (1 : Int))),
                                                   SV.bool (decide ((↑(atF (List.length xs_1) (Int.toNat n)) : Int) ≤ (1 : Int))),
                                                   SV.bool (decide ((↑(atF (List.length xs_1) (Int.toNat n)) : Int) ≤ (1 : Int))),
                                                   SV.bool (decide ((↑(atF (List.length xs_1) (Int.toNat n)) : Int) ≤ (1 : Int))),
                                                   SV.raw (u 88), SV.raw (u 89), SV.raw (u 90), SV.raw (u 91),
                                                   SV.raw (u 92), SV.raw (u 93), SV.raw (u 94), SV.raw (u 95),
                                                   SV.raw (u 96), SV.raw (u 97), SV.raw (u 98), SV.raw (u 99),
                                                   SV.raw (u 100), SV.raw (u 101), SV.raw (u 102), SV.raw (u 103),
                                                   SV.raw (u 104), SV.raw (u 105), SV.raw (u 106), SV.raw (u 107),
                                                   SV.raw (u 108), SV.raw (u 109), SV.raw (u 110), SV.raw (u 111),
                                                   SV.raw (u 112)]
                                                  [Ent.mk (Loc.sl ao_1 cap_1) (SObj.roL 1 encI16 bs_1 (0 : Int)),
                                                   Ent.mk (Loc.sl ao'_1 cap'_1) (SObj.roL 1 encU8 ss_1 (0 : Int)),
                                                   Ent.mk (Loc.blk bl_1)
                                                    (SObj.cells [SV.vec 0 ao_1 (List.length bs_1) cap_1] (75 : TypeId)),
                                                   Ent.mk (Loc.blk q_1)
                                                    (SObj.cells
                                                     [SV.vec 4 aoq_1 (List.length xs_1) capq_1, SV.func (Fn.func (53 : FuncId)) [] [],
                                                      SV.int IntKind.i64 na_1]
                                                     (146 : TypeId)),
                                                   Ent.mk (Loc.sl aoq_1 capq_1)
                                                    (SObj.vecL (149 : TypeId) 2 encItI xs_1 ((0 : Int), (0 : Int))),
                                                   Ent.mk (Loc.blk b7)
                                                    (SObj.cells [SV.vec 6 aof_1 (List.length xs_1) capf_1] (39 : TypeId)),
                                                   Ent.mk (Loc.sl aof_1 capf_1)
                                                    (SObj.vecL (3 : TypeId) 1 encI1 (firsts xs_1 (List.length xs_1)) (0 : Int)),
                                                   Ent.mk (Loc.blk b8)
                                                    (SObj.cells [SV.bool (decide ((↑(atF (List.length xs_1) (Int.toNat n)) : Int) ≤ (1 : Int)))]
                                                     (4 : TypeId)),
                                                   Ent.mk (Loc.blk b) (SObj.cells [SV.int IntKind.i64 n] (3 : TypeId)),
                                                   Ent.mk (Loc.blk b_1)
                                                    (SObj.cells [SV.int IntKind.i64 (↑(atF (List.length xs_1) (Int.toNat n)) : Int)]
                                                     (3 : TypeId))])
                                             | false =>
                                              (b8 = b8 ∧ true = true ∧ 1 = 1 ∧ 1 ≤ 1) ∧
                                               K
                                                (Frm.loop J ::
                                                 Frm.blk 2 ::
                                                  frm [] (bodyOf Try.f12)
                                                   [1, 1, 1, 1, 1, 1, 1, 1,
                                                    1]
                                                   [])
                                                (Sy.mk
                                                 [SV.raw (u 0), SV.vec 1 ao' (List.length ss) cap', SV.ptr 2 bl 0,
                                                  SV.raw (u 3), SV.bool false, SV.ptr 3 q 0, SV.raw (u 6),
                                                  SV.ptr 5 b7 0, SV.ptr 7 b8 0,
                                                  SV.int IntKind.i64 (IntKind.wrap IntKind.i64 (i + (1 : Int))), SV.ptr 8 b 0,
                                                  SV.ptr 9 b_1 0, SV.raw (u 12), SV.raw (u 13),
                                                  SV.raw (u 14), SV.raw (u 15), SV.raw (u 16), SV.raw (u 17),
                                                  SV.raw (u 18), SV.raw (u 19), SV.raw (u 20), SV.raw (u 21),
                                                  SV.raw (u 22), SV.raw (u 23), SV.raw (u 24), SV.raw (u 25),
                                                  SV.raw (u 26), SV.raw (u 27), SV.raw (u 28), SV.raw (u 29),
                                                  SV.raw (u 30), SV.raw (u 31), SV.raw (u 32), SV.raw (u 33),
                                                  SV.raw (u 34), SV.raw (u 35), SV.raw (u 36), SV.raw (u 37),
                                                  SV.raw (u 38), SV.raw (u 39), SV.raw (u 40), SV.raw (u 41),
                                                  SV.raw (u 42), SV.raw (u 43), SV.raw (u 44), SV.raw (u 45),
                                                  SV.raw (u 46), SV.raw (u 47), SV.int IntKind.i64 i,
                                                  SV.vec 1 ao' (List.length ss) cap', SV.int IntKind.i64 (↑(List.length ss) : Int),
                                                  SV.bool true, SV.int IntKind.i64 i, SV.int IntKind.i64 (IntKind.wrap IntKind.i64 (i + (1 : Int))),
                                                  SV.vec 1 ao' (List.length ss) cap', SV.int IntKind.i64 i,
                                                  SV.eptr 1 (Addr.blkD ao') (Addr.offD ao') 1 (Int.toNat i) 0,
                                                  SV.int IntKind.u8 (List.getD ss (Int.toNat i) (0 : Int)),
                                                  SV.int IntKind.i64 (IntKind.wrap IntKind.i64 (List.getD ss (Int.toNat i) (0 : Int))),
                                                  SV.vec 0 ao (List.length bs) cap, SV.int IntKind.i64 (↑(List.length bs) : Int),
                                                  SV.int IntKind.i64 (IntKind.wrap IntKind.i64 ((↑(List.length bs) : Int) + (1 : Int))),
                                                  SV.int IntKind.i64
                                                   (Int.tmod (IntKind.wrap IntKind.i64 (List.getD ss (Int.toNat i) (0 : Int)))
                                                    (IntKind.wrap IntKind.i64 ((↑(List.length bs) : Int) + (1 : Int)))),
                                                  SV.ptr 3 q 0, SV.func (Fn.func 87) [] [SV.ptr 10 b_2 0],
                                                  SV.func (Fn.func 56) []
                                                   [SV.ptr 7 b8 0, SV.ptr 9 b_1 0, SV.ptr 5 b7 0,
                                                    SV.ptr 8 b 0],
                                                  SV.tuple [], SV.bool o_1, SV.bool true, SV.ptr 3 q 0,
                                                  SV.int IntKind.i64 (↑(List.length xs_1) : Int), SV.vec 0 ao_1 (List.length bs_1) cap_1,
                                                  SV.int IntKind.i64 (↑(List.length bs_1) : Int),
                                                  SV.bool ((↑(List.length xs_1) : Int) == (↑(List.length bs_1) : Int)),
                                                  SV.bool ((↑(List.length xs_1) : Int) == (↑(List.length bs_1) : Int)), SV.bool true,
                                                  SV.int IntKind.i64 (↑(atF (List.length xs_1) (Int.toNat n)) : Int), SV.int IntKind.i64 n,
                                                  SV.bool ((↑(atF (List.length xs_1) (Int.toNat n)) : Int) == n), SV.bool false,
                                                  SV.int IntKind.i64 n, SV.bool (n == (0 : Int)), SV.bool false, SV.raw (Value.tuple #[]),
                                                  SV.raw (Value.tuple #[]), SV.bool false, SV.bool false, SV.bool false, SV.raw (u 88),
                                                  SV.raw (u 89), SV.raw (u 90), SV.raw (u 91), SV.raw (u 92),
                                                  SV.raw (u 93), SV.raw (u 94), SV.raw (u 95), SV.raw (u 96),
                                                  SV.raw (u 97), SV.raw (u 98), SV.raw (u 99), SV.raw (u 100),
                                                  SV.raw (u 101), SV.raw (u 102), SV.raw (u 103), SV.raw (u 104),
                                                  SV.raw (u 105), SV.raw (u 106), SV.raw (u 107), SV.raw (u 108),
                                                  SV.raw (u 109), SV.raw (u 110), SV.raw (u 111), SV.raw (u 112)]
                                                 [Ent.mk (Loc.sl ao_1 cap_1) (SObj.roL 1 encI16 bs_1 (0 : Int)),
                                                  Ent.mk (Loc.sl ao'_1 cap'_1) (SObj.roL 1 encU8 ss_1 (0 : Int)),
                                                  Ent.mk (Loc.blk bl_1) (SObj.cells [SV.vec 0 ao_1 (List.length bs_1) cap_1] (75 : TypeId)),
                                                  Ent.mk (Loc.blk q_1)
                                                   (SObj.cells
                                                    [SV.vec 4 aoq_1 (List.length xs_1) capq_1, SV.func (Fn.func (53 : FuncId)) [] [],
                                                     SV.int IntKind.i64 na_1]
                                                    (146 : TypeId)),
                                                  Ent.mk (Loc.sl aoq_1 capq_1)
                                                   (SObj.vecL (149 : TypeId) 2 encItI xs_1 ((0 : Int), (0 : Int))),
                                                  Ent.mk (Loc.blk b7) (SObj.cells [SV.vec 6 aof_1 (List.length xs_1) capf_1] (39 : TypeId)),
                                                  Ent.mk (Loc.sl aof_1 capf_1)
                                                   (SObj.vecL (3 : TypeId) 1 encI1 (firsts xs_1 (List.length xs_1)) (0 : Int)),
                                                  Ent.mk (Loc.blk b8) (SObj.cells [SV.bool false] (4 : TypeId)),
                                                  Ent.mk (Loc.blk b) (SObj.cells [SV.int IntKind.i64 n] (3 : TypeId)),
                                                  Ent.mk (Loc.blk b_1)
                                                   (SObj.cells [SV.int IntKind.i64 (↑(atF (List.length xs_1) (Int.toNat n)) : Int)] (3 : TypeId))])
                                        | false =>
                                         true = true ∧
                                          true = true ∧
                                           true = true ∧
                                            true = true ∧
                                             true = true ∧
                                              true = true ∧
                                               (b8 = b8 ∧ true = true ∧ 1 = 1 ∧ 1 ≤ 1) ∧
                                                K
                                                 (Frm.loop J ::
                                                  Frm.blk 2 ::
                                                   frm [] (bodyOf Try.f12)
                                                    [1, 1, 1, 1, 1, 1, 1, 1,
                                                     1]
                                                    [])
                                                 (Sy.mk
                                                  [SV.raw (u 0), SV.vec 1 ao' (List.length ss) cap', SV.ptr 2 bl 0,
                                                   SV.raw (u 3), SV.bool false, SV.ptr 3 q 0, SV.raw (u 6),
                                                   SV.ptr 5 b7 0, SV.ptr 7 b8 0,
                                                   SV.int IntKind.i64 (IntKind.wrap IntKind.i64 (i + (1 : Int))), SV.ptr 8 b 0,
                                                   SV.ptr 9 b_1 0, SV.raw (u 12), SV.raw (u 13),
                                                   SV.raw (u 14), SV.raw (u 15), SV.raw (u 16), SV.raw (u 17),
                                                   SV.raw (u 18), SV.raw (u 19), SV.raw (u 20), SV.raw (u 21),
                                                   SV.raw (u 22), SV.raw (u 23), SV.raw (u 24), SV.raw (u 25),
                                                   SV.raw (u 26), SV.raw (u 27), SV.raw (u 28), SV.raw (u 29),
                                                   SV.raw (u 30), SV.raw (u 31), SV.raw (u 32), SV.raw (u 33),
                                                   SV.raw (u 34), SV.raw (u 35), SV.raw (u 36), SV.raw (u 37),
                                                   SV.raw (u 38), SV.raw (u 39), SV.raw (u 40), SV.raw (u 41),
                                                   SV.raw (u 42), SV.raw (u 43), SV.raw (u 44), SV.raw (u 45),
                                                   SV.raw (u 46), SV.raw (u 47), SV.int IntKind.i64 i,
                                                   SV.vec 1 ao' (List.length ss) cap', SV.int IntKind.i64 (↑(List.length ss) : Int),
                                                   SV.bool true, SV.int IntKind.i64 i,
                                                   SV.int IntKind.i64 (IntKind.wrap IntKind.i64 (i + (1 : Int))),
                                                   SV.vec 1 ao' (List.length ss) cap', SV.int IntKind.i64 i,
                                                   SV.eptr 1 (Addr.blkD ao') (Addr.offD ao') 1 (Int.toNat i) 0,
                                                   SV.int IntKind.u8 (List.getD ss (Int.toNat i) (0 : Int)),
                                                   SV.int IntKind.i64 (IntKind.wrap IntKind.i64 (List.getD ss (Int.toNat i) (0 : Int))),
                                                   SV.vec 0 ao (List.length bs) cap, SV.int IntKind.i64 (↑(List.length bs) : Int),
                                                   SV.int IntKind.i64 (IntKind.wrap IntKind.i64 ((↑(List.length bs) : Int) + (1 : Int))),
                                                   SV.int IntKind.i64
                                                    (Int.tmod (IntKind.wrap IntKind.i64 (List.getD ss (Int.toNat i) (0 : Int)))
                                                     (IntKind.wrap IntKind.i64 ((↑(List.length bs) : Int) + (1 : Int)))),
                                                   SV.ptr 3 q 0, SV.func (Fn.func 87) [] [SV.ptr 10 b_2 0],
                                                   SV.func (Fn.func 56) []
                                                    [SV.ptr 7 b8 0, SV.ptr 9 b_1 0, SV.ptr 5 b7 0,
                                                     SV.ptr 8 b 0],
                                                   SV.tuple [], SV.bool o_1, SV.bool true, SV.ptr 3 q 0,
                                                   SV.int IntKind.i64 (↑(List.length xs_1) : Int), SV.vec 0 ao_1 (List.length bs_1) cap_1,
                                                   SV.int IntKind.i64 (↑(List.length bs_1) : Int),
                                                   SV.bool ((↑(List.length xs_1) : Int) == (↑(List.length bs_1) : Int)),
                                                   SV.bool ((↑(List.length xs_1) : Int) == (↑(List.length bs_1) : Int)), SV.bool false,
                                                   SV.raw (Value.tuple #[]), SV.raw (Value.tuple #[]), SV.raw (Value.tuple #[]),
                                                   SV.raw (Value.tuple #[]), SV.raw (Value.tuple #[]), SV.raw (Value.tuple #[]),
                                                   SV.raw (Value.tuple #[]), SV.raw (Value.tuple #[]), SV.raw (Value.tuple #[]),
                                                   SV.raw (Value.tuple #[]), SV.raw (Value.tuple #[]), SV.bool false, SV.raw (u 88),
                                                   SV.raw (u 89), SV.raw (u 90), SV.raw (u 91), SV.raw (u 92),
                                                   SV.raw (u 93), SV.raw (u 94), SV.raw (u 95), SV.raw (u 96),
                                                   SV.raw (u 97), SV.raw (u 98), SV.raw (u 99), SV.raw (u 100),
                                                   SV.raw (u 101), SV.raw (u 102), SV.raw (u 103), SV.raw (u 104),
                                                   SV.raw (u 105), SV.raw (u 106), SV.raw (u 107), SV.raw (u 108),
                                                   SV.raw (u 109), SV.raw (u 110), SV.raw (u 111), SV.raw (u 112)]
                                                  [Ent.mk (Loc.sl ao_1 cap_1) (SObj.roL 1 encI16 bs_1 (0 : Int)),
                                                   Ent.mk (Loc.sl ao'_1 cap'_1) (SObj.roL 1 encU8 ss_1 (0 : Int)),
                                                   Ent.mk (Loc.blk bl_1)
                                                    (SObj.cells [SV.vec 0 ao_1 (List.length bs_1) cap_1] (75 : TypeId)),
                                                   Ent.mk (Loc.blk q_1)
                                                    (SObj.cells
                                                     [SV.vec 4 aoq_1 (List.length xs_1) capq_1, SV.func (Fn.func (53 : FuncId)) [] [],
                                                      SV.int IntKind.i64 na_1]
                                                     (146 : TypeId)),
                                                   Ent.mk (Loc.sl aoq_1 capq_1)
                                                    (SObj.vecL (149 : TypeId) 2 encItI xs_1 ((0 : Int), (0 : Int))),
                                                   Ent.mk (Loc.blk b7)
                                                    (SObj.cells [SV.vec 6 aof_1 (List.length xs_1) capf_1] (39 : TypeId)),
                                                   Ent.mk (Loc.sl aof_1 capf_1)
                                                    (SObj.vecL (3 : TypeId) 1 encI1 (firsts xs_1 (List.length xs_1)) (0 : Int)),
                                                   Ent.mk (Loc.blk b8) (SObj.cells [SV.bool false] (4 : TypeId)),
                                                   Ent.mk (Loc.blk b) (SObj.cells [SV.int IntKind.i64 n] (3 : TypeId)),
                                                   Ent.mk (Loc.blk b_1)
                                                    (SObj.cells [SV.int IntKind.i64 (↑(atF (List.length xs_1) (Int.toNat n)) : Int)]
                                                     (3 : TypeId))])) ∧
                                      true = true ∧
                                       q_1 = q ∧
                                        (match (↑(List.length xs_1) : Int) == (↑(List.length bs_1) : Int) with
                                         | true =>
                                          b_1 = b_1 ∧
                                           b = b ∧
                                            match (↑(atF (List.length xs_1) (Int.toNat n)) : Int) == n with
                                            | true =>
                                             true = true ∧
                                              true = true ∧
                                               (b8 = b8 ∧ true = true ∧ 1 = 1 ∧ 1 ≤ 1) ∧
                                                K
                                                 (Frm.loop J ::
                                                  Frm.blk 2 ::
                                                   frm [] (bodyOf Try.f12)
                                                    [1, 1, 1, 1, 1, 1, 1, 1,
                                                     1]
                                                    [])
                                                 (Sy.mk
                                                  [SV.raw (u 0), SV.vec 1 ao' (List.length ss) cap', SV.ptr 2 bl 0,
                                                   SV.raw (u 3), SV.bool false, SV.ptr 3 q 0, SV.raw (u 6),
                                                   SV.ptr 5 b7 0, SV.ptr 7 b8 0,
                                                   SV.int IntKind.i64 (IntKind.wrap IntKind.i64 (i + (1 : Int))), SV.ptr 8 b 0,
                                                   SV.ptr 9 b_1 0, SV.raw (u 12), SV.raw (u 13),
                                                   SV.raw (u 14), SV.raw (u 15), SV.raw (u 16), SV.raw (u 17),
                                                   SV.raw (u 18), SV.raw (u 19), SV.raw (u 20), SV.raw (u 21),
                                                   SV.raw (u 22), SV.raw (u 23), SV.raw (u 24), SV.raw (u 25),
                                                   SV.raw (u 26), SV.raw (u 27), SV.raw (u 28), SV.raw (u 29),
                                                   SV.raw (u 30), SV.raw (u 31), SV.raw (u 32), SV.raw (u 33),
                                                   SV.raw (u 34), SV.raw (u 35), SV.raw (u 36), SV.raw (u 37),
                                                   SV.raw (u 38), SV.raw (u 39), SV.raw (u 40), SV.raw (u 41),
                                                   SV.raw (u 42), SV.raw (u 43), SV.raw (u 44), SV.raw (u 45),
                                                   SV.raw (u 46), SV.raw (u 47), SV.int IntKind.i64 i,
                                                   SV.vec 1 ao' (List.length ss) cap', SV.int IntKind.i64 (↑(List.length ss) : Int),
                                                   SV.bool true, SV.int IntKind.i64 i, SV.int IntKind.i64 (IntKind.wrap IntKind.i64 (i + (1 : Int))),
                                                   SV.vec 1 ao' (List.length ss) cap', SV.int IntKind.i64 i,
                                                   SV.eptr 1 (Addr.blkD ao') (Addr.offD ao') 1 (Int.toNat i) 0,
                                                   SV.int IntKind.u8 (List.getD ss (Int.toNat i) (0 : Int)),
                                                   SV.int IntKind.i64 (IntKind.wrap IntKind.i64 (List.getD ss (Int.toNat i) (0 : Int))),
                                                   SV.vec 0 ao (List.length bs) cap, SV.int IntKind.i64 (↑(List.length bs) : Int),
                                                   SV.int IntKind.i64 (IntKind.wrap IntKind.i64 ((↑(List.length bs) : Int) + (1 : Int))),
                                                   SV.int IntKind.i64
                                                    (Int.tmod (IntKind.wrap IntKind.i64 (List.getD ss (Int.toNat i) (0 : Int)))
                                                     (IntKind.wrap IntKind.i64 ((↑(List.length bs) : Int) + (1 : Int)))),
                                                   SV.ptr 3 q 0, SV.func (Fn.func 87) [] [SV.ptr 10 b_2 0],
                                                   SV.func (Fn.func 56) []
                                                    [SV.ptr 7 b8 0, SV.ptr 9 b_1 0, SV.ptr 5 b7 0,
                                                     SV.ptr 8 b 0],
                                                   SV.tuple [], SV.bool o_1, SV.bool true, SV.ptr 3 q 0,
                                                   SV.int IntKind.i64 (↑(List.length xs_1) : Int), SV.vec 0 ao_1 (List.length bs_1) cap_1,
                                                   SV.int IntKind.i64 (↑(List.length bs_1) : Int),
                                                   SV.bool ((↑(List.length xs_1) : Int) == (↑(List.length bs_1) : Int)),
                                                   SV.bool ((↑(List.length xs_1) : Int) == (↑(List.length bs_1) : Int)), SV.bool true,
                                                   SV.int IntKind.i64 (↑(atF (List.length xs_1) (Int.toNat n)) : Int), SV.int IntKind.i64 n,
                                                   SV.bool ((↑(atF (List.length xs_1) (Int.toNat n)) : Int) == n), SV.bool true,
                                                   SV.raw (Value.tuple #[]), SV.raw (Value.tuple #[]), SV.raw (Value.tuple #[]),
                                                   SV.raw (Value.tuple #[]), SV.raw (Value.tuple #[]), SV.raw (Value.tuple #[]), SV.bool true,
                                                   SV.bool true, SV.raw (u 88), SV.raw (u 89), SV.raw (u 90),
                                                   SV.raw (u 91), SV.raw (u 92), SV.raw (u 93), SV.raw (u 94),
                                                   SV.raw (u 95), SV.raw (u 96), SV.raw (u 97), SV.raw (u 98),
                                                   SV.raw (u 99), SV.raw (u 100), SV.raw (u 101), SV.raw (u 102),
                                                   SV.raw (u 103), SV.raw (u 104), SV.raw (u 105), SV.raw (u 106),
                                                   SV.raw (u 107), SV.raw (u 108), SV.raw (u 109), SV.raw (u 110),
                                                   SV.raw (u 111), SV.raw (u 112)]
                                                  [Ent.mk (Loc.sl ao_1 cap_1) (SObj.roL 1 encI16 bs_1 (0 : Int)),
                                                   Ent.mk (Loc.sl ao'_1 cap'_1) (SObj.roL 1 encU8 ss_1 (0 : Int)),
                                                   Ent.mk (Loc.blk bl_1) (SObj.cells [SV.vec 0 ao_1 (List.length bs_1) cap_1] (75 : TypeId)),
                                                   Ent.mk (Loc.blk q_1)
                                                    (SObj.cells
                                                     [SV.vec 4 aoq_1 (List.length xs_1) capq_1, SV.func (Fn.func (53 : FuncId)) [] [],
                                                      SV.int IntKind.i64 na_1]
                                                     (146 : TypeId)),
                                                   Ent.mk (Loc.sl aoq_1 capq_1)
                                                    (SObj.vecL (149 : TypeId) 2 encItI xs_1 ((0 : Int), (0 : Int))),
                                                   Ent.mk (Loc.blk b7) (SObj.cells [SV.vec 6 aof_1 (List.length xs_1) capf_1] (39 : TypeId)),
                                                   Ent.mk (Loc.sl aof_1 capf_1)
                                                    (SObj.vecL (3 : TypeId) 1 encI1 (firsts xs_1 (List.length xs_1)) (0 : Int)),
                                                   Ent.mk (Loc.blk b8) (SObj.cells [SV.bool true] (4 : TypeId)),
                                                   Ent.mk (Loc.blk b) (SObj.cells [SV.int IntKind.i64 n] (3 : TypeId)),
                                                   Ent.mk (Loc.blk b_1)
                                                    (SObj.cells [SV.int IntKind.i64 (↑(atF (List.length xs_1) (Int.toNat n)) : Int)] (3 : TypeId))])
                                            | false =>
                                             b = b ∧
                                              match n == (0 : Int) with
                                              | true =>
                                               b_1 = b_1 ∧
                                                (b8 = b8 ∧ true = true ∧ 1 = 1 ∧ 1 ≤ 1) ∧
                                                 K
                                                  (Frm.loop J ::
                                                   Frm.blk 2 ::
                                                    frm [] (bodyOf Try.f12)
                                                     [1, 1, 1, 1, 1, 1, 1, 1,
                                                      1]
                                                     [])
                                                  (Sy.mk
                                                   [SV.raw (u 0), SV.vec 1 ao' (List.length ss) cap', SV.ptr 2 bl 0,
                                                    SV.raw (u 3), SV.bool false, SV.ptr 3 q 0, SV.raw (u 6),
                                                    SV.ptr 5 b7 0, SV.ptr 7 b8 0,
                                                    SV.int IntKind.i64 (IntKind.wrap IntKind.i64 (i + (1 : Int))), SV.ptr 8 b 0,
                                                    SV.ptr 9 b_1 0, SV.raw (u 12), SV.raw (u 13),
                                                    SV.raw (u 14), SV.raw (u 15), SV.raw (u 16), SV.raw (u 17),
                                                    SV.raw (u 18), SV.raw (u 19), SV.raw (u 20), SV.raw (u 21),
                                                    SV.raw (u 22), SV.raw (u 23), SV.raw (u 24), SV.raw (u 25),
                                                    SV.raw (u 26), SV.raw (u 27), SV.raw (u 28), SV.raw (u 29),
                                                    SV.raw (u 30), SV.raw (u 31), SV.raw (u 32), SV.raw (u 33),
                                                    SV.raw (u 34), SV.raw (u 35), SV.raw (u 36), SV.raw (u 37),
                                                    SV.raw (u 38), SV.raw (u 39), SV.raw (u 40), SV.raw (u 41),
                                                    SV.raw (u 42), SV.raw (u 43), SV.raw (u 44), SV.raw (u 45),
                                                    SV.raw (u 46), SV.raw (u 47), SV.int IntKind.i64 i,
                                                    SV.vec 1 ao' (List.length ss) cap', SV.int IntKind.i64 (↑(List.length ss) : Int),
                                                    SV.bool true, SV.int IntKind.i64 i,
                                                    SV.int IntKind.i64 (IntKind.wrap IntKind.i64 (i + (1 : Int))),
                                                    SV.vec 1 ao' (List.length ss) cap', SV.int IntKind.i64 i,
                                                    SV.eptr 1 (Addr.blkD ao') (Addr.offD ao') 1 (Int.toNat i) 0,
                                                    SV.int IntKind.u8 (List.getD ss (Int.toNat i) (0 : Int)),
                                                    SV.int IntKind.i64 (IntKind.wrap IntKind.i64 (List.getD ss (Int.toNat i) (0 : Int))),
                                                    SV.vec 0 ao (List.length bs) cap, SV.int IntKind.i64 (↑(List.length bs) : Int),
                                                    SV.int IntKind.i64 (IntKind.wrap IntKind.i64 ((↑(List.length bs) : Int) + (1 : Int))),
                                                    SV.int IntKind.i64
                                                     (Int.tmod (IntKind.wrap IntKind.i64 (List.getD ss (Int.toNat i) (0 : Int)))
                                                      (IntKind.wrap IntKind.i64 ((↑(List.length bs) : Int) + (1 : Int)))),
                                                    SV.ptr 3 q 0, SV.func (Fn.func 87) [] [SV.ptr 10 b_2 0],
                                                    SV.func (Fn.func 56) []
                                                     [SV.ptr 7 b8 0, SV.ptr 9 b_1 0, SV.ptr 5 b7 0,
                                                      SV.ptr 8 b 0],
                                                    SV.tuple [], SV.bool o_1, SV.bool true, SV.ptr 3 q 0,
                                                    SV.int IntKind.i64 (↑(List.length xs_1) : Int), SV.vec 0 ao_1 (List.length bs_1) cap_1,
                                                    SV.int IntKind.i64 (↑(List.length bs_1) : Int),
                                                    SV.bool ((↑(List.length xs_1) : Int) == (↑(List.length bs_1) : Int)),
                                                    SV.bool ((↑(List.length xs_1) : Int) == (↑(List.length bs_1) : Int)), SV.bool true,
                                                    SV.int IntKind.i64 (↑(atF (List.length xs_1) (Int.toNat n)) : Int), SV.int IntKind.i64 n,
                                                    SV.bool ((↑(atF (List.length xs_1) (Int.toNat n)) : Int) == n), SV.bool false,
                                                    SV.int IntKind.i64 n, SV.bool (n == (0 : Int)), SV.bool true,
                                                    SV.int IntKind.i64 (↑(atF (List.length xs_1) (Int.toNat n)) : Int),
                                                    SV.bool (decide ((↑(atF (List.length xs_1) (Int.toNat n)) : Int) ≤ (1 : Int))),
                                                    SV.bool (decide ((↑(atF (List.length xs_1) (Int.toNat n)) : Int) ≤ (1 : Int))),
                                                    SV.bool (decide ((↑(atF (List.length xs_1) (Int.toNat n)) : Int) ≤ (1 : Int))),
                                                    SV.bool (decide ((↑(atF (List.length xs_1) (Int.toNat n)) : Int) ≤ (1 : Int))),
                                                    SV.raw (u 88), SV.raw (u 89), SV.raw (u 90), SV.raw (u 91),
                                                    SV.raw (u 92), SV.raw (u 93), SV.raw (u 94), SV.raw (u 95),
                                                    SV.raw (u 96), SV.raw (u 97), SV.raw (u 98), SV.raw (u 99),
                                                    SV.raw (u 100), SV.raw (u 101), SV.raw (u 102), SV.raw (u 103),
                                                    SV.raw (u 104), SV.raw (u 105), SV.raw (u 106), SV.raw (u 107),
                                                    SV.raw (u 108), SV.raw (u 109), SV.raw (u 110), SV.raw (u 111),
                                                    SV.raw (u 112)]
                                                   [Ent.mk (Loc.sl ao_1 cap_1) (SObj.roL 1 encI16 bs_1 (0 : Int)),
                                                    Ent.mk (Loc.sl ao'_1 cap'_1) (SObj.roL 1 encU8 ss_1 (0 : Int)),
                                                    Ent.mk (Loc.blk bl_1)
                                                     (SObj.cells [SV.vec 0 ao_1 (List.length bs_1) cap_1] (75 : TypeId)),
                                                    Ent.mk (Loc.blk q_1)
                                                     (SObj.cells
                                                      [SV.vec 4 aoq_1 (List.length xs_1) capq_1, SV.func (Fn.func (53 : FuncId)) [] [],
                                                       SV.int IntKind.i64 na_1]
                                                      (146 : TypeId)),
                                                    Ent.mk (Loc.sl aoq_1 capq_1)
                                                     (SObj.vecL (149 : TypeId) 2 encItI xs_1 ((0 : Int), (0 : Int))),
                                                    Ent.mk (Loc.blk b7)
                                                     (SObj.cells [SV.vec 6 aof_1 (List.length xs_1) capf_1] (39 : TypeId)),
                                                    Ent.mk (Loc.sl aof_1 capf_1)
                                                     (SObj.vecL (3 : TypeId) 1 encI1 (firsts xs_1 (List.length xs_1)) (0 : Int)),
                                                    Ent.mk (Loc.blk b8)
                                                     (SObj.cells [SV.bool (decide ((↑(atF (List.length xs_1) (Int.toNat n)) : Int) ≤ (1 : Int)))]
                                                      (4 : TypeId)),
                                                    Ent.mk (Loc.blk b) (SObj.cells [SV.int IntKind.i64 n] (3 : TypeId)),
                                                    Ent.mk (Loc.blk b_1)
                                                     (SObj.cells [SV.int IntKind.i64 (↑(atF (List.length xs_1) (Int.toNat n)) : Int)]
                                                      (3 : TypeId))])
                                              | false =>
                                               (b8 = b8 ∧ true = true ∧ 1 = 1 ∧ 1 ≤ 1) ∧
                                                K
                                                 (Frm.loop J ::
                                                  Frm.blk 2 ::
                                                   frm [] (bodyOf Try.f12)
                                                    [1, 1, 1, 1, 1, 1, 1, 1,
                                                     1]
                                                    [])
                                                 (Sy.mk
                                                  [SV.raw (u 0), SV.vec 1 ao' (List.length ss) cap', SV.ptr 2 bl 0,
                                                   SV.raw (u 3), SV.bool false, SV.ptr 3 q 0, SV.raw (u 6),
                                                   SV.ptr 5 b7 0, SV.ptr 7 b8 0,
                                                   SV.int IntKind.i64 (IntKind.wrap IntKind.i64 (i + (1 : Int))), SV.ptr 8 b 0,
                                                   SV.ptr 9 b_1 0, SV.raw (u 12), SV.raw (u 13),
                                                   SV.raw (u 14), SV.raw (u 15), SV.raw (u 16), SV.raw (u 17),
                                                   SV.raw (u 18), SV.raw (u 19), SV.raw (u 20), SV.raw (u 21),
                                                   SV.raw (u 22), SV.raw (u 23), SV.raw (u 24), SV.raw (u 25),
                                                   SV.raw (u 26), SV.raw (u 27), SV.raw (u 28), SV.raw (u 29),
                                                   SV.raw (u 30), SV.raw (u 31), SV.raw (u 32), SV.raw (u 33),
                                                   SV.raw (u 34), SV.raw (u 35), SV.raw (u 36), SV.raw (u 37),
                                                   SV.raw (u 38), SV.raw (u 39), SV.raw (u 40), SV.raw (u 41),
                                                   SV.raw (u 42), SV.raw (u 43), SV.raw (u 44), SV.raw (u 45),
                                                   SV.raw (u 46), SV.raw (u 47), SV.int IntKind.i64 i,
                                                   SV.vec 1 ao' (List.length ss) cap', SV.int IntKind.i64 (↑(List.length ss) : Int),
                                                   SV.bool true, SV.int IntKind.i64 i, SV.int IntKind.i64 (IntKind.wrap IntKind.i64 (i + (1 : Int))),
                                                   SV.vec 1 ao' (List.length ss) cap', SV.int IntKind.i64 i,
                                                   SV.eptr 1 (Addr.blkD ao') (Addr.offD ao') 1 (Int.toNat i) 0,
                                                   SV.int IntKind.u8 (List.getD ss (Int.toNat i) (0 : Int)),
                                                   SV.int IntKind.i64 (IntKind.wrap IntKind.i64 (List.getD ss (Int.toNat i) (0 : Int))),
                                                   SV.vec 0 ao (List.length bs) cap, SV.int IntKind.i64 (↑(List.length bs) : Int),
                                                   SV.int IntKind.i64 (IntKind.wrap IntKind.i64 ((↑(List.length bs) : Int) + (1 : Int))),
                                                   SV.int IntKind.i64
                                                    (Int.tmod (IntKind.wrap IntKind.i64 (List.getD ss (Int.toNat i) (0 : Int)))
                                                     (IntKind.wrap IntKind.i64 ((↑(List.length bs) : Int) + (1 : Int)))),
                                                   SV.ptr 3 q 0, SV.func (Fn.func 87) [] [SV.ptr 10 b_2 0],
                                                   SV.func (Fn.func 56) []
                                                    [SV.ptr 7 b8 0, SV.ptr 9 b_1 0, SV.ptr 5 b7 0,
                                                     SV.ptr 8 b 0],
                                                   SV.tuple [], SV.bool o_1, SV.bool true, SV.ptr 3 q 0,
                                                   SV.int IntKind.i64 (↑(List.length xs_1) : Int), SV.vec 0 ao_1 (List.length bs_1) cap_1,
                                                   SV.int IntKind.i64 (↑(List.length bs_1) : Int),
                                                   SV.bool ((↑(List.length xs_1) : Int) == (↑(List.length bs_1) : Int)),
                                                   SV.bool ((↑(List.length xs_1) : Int) == (↑(List.length bs_1) : Int)), SV.bool true,
                                                   SV.int IntKind.i64 (↑(atF (List.length xs_1) (Int.toNat n)) : Int), SV.int IntKind.i64 n,
                                                   SV.bool ((↑(atF (List.length xs_1) (Int.toNat n)) : Int) == n), SV.bool false,
                                                   SV.int IntKind.i64 n, SV.bool (n == (0 : Int)), SV.bool false, SV.raw (Value.tuple #[]),
                                                   SV.raw (Value.tuple #[]), SV.bool false, SV.bool false, SV.bool false, SV.raw (u 88),
                                                   SV.raw (u 89), SV.raw (u 90), SV.raw (u 91), SV.raw (u 92),
                                                   SV.raw (u 93), SV.raw (u 94), SV.raw (u 95), SV.raw (u 96),
                                                   SV.raw (u 97), SV.raw (u 98), SV.raw (u 99), SV.raw (u 100),
                                                   SV.raw (u 101), SV.raw (u 102), SV.raw (u 103), SV.raw (u 104),
                                                   SV.raw (u 105), SV.raw (u 106), SV.raw (u 107), SV.raw (u 108),
                                                   SV.raw (u 109), SV.raw (u 110), SV.raw (u 111), SV.raw (u 112)]
                                                  [Ent.mk (Loc.sl ao_1 cap_1) (SObj.roL 1 encI16 bs_1 (0 : Int)),
                                                   Ent.mk (Loc.sl ao'_1 cap'_1) (SObj.roL 1 encU8 ss_1 (0 : Int)),
                                                   Ent.mk (Loc.blk bl_1) (SObj.cells [SV.vec 0 ao_1 (List.length bs_1) cap_1] (75 : TypeId)),
                                                   Ent.mk (Loc.blk q_1)
                                                    (SObj.cells
                                                     [SV.vec 4 aoq_1 (List.length xs_1) capq_1, SV.func (Fn.func (53 : FuncId)) [] [],
                                                      SV.int IntKind.i64 na_1]
                                                     (146 : TypeId)),
                                                   Ent.mk (Loc.sl aoq_1 capq_1)
                                                    (SObj.vecL (149 : TypeId) 2 encItI xs_1 ((0 : Int), (0 : Int))),
                                                   Ent.mk (Loc.blk b7) (SObj.cells [SV.vec 6 aof_1 (List.length xs_1) capf_1] (39 : TypeId)),
                                                   Ent.mk (Loc.sl aof_1 capf_1)
                                                    (SObj.vecL (3 : TypeId) 1 encI1 (firsts xs_1 (List.length xs_1)) (0 : Int)),
                                                   Ent.mk (Loc.blk b8) (SObj.cells [SV.bool false] (4 : TypeId)),
                                                   Ent.mk (Loc.blk b) (SObj.cells [SV.int IntKind.i64 n] (3 : TypeId)),
                                                   Ent.mk (Loc.blk b_1)
                                                    (SObj.cells [SV.int IntKind.i64 (↑(atF (List.length xs_1) (Int.toNat n)) : Int)] (3 : TypeId))])
                                         | false =>
                                          true = true ∧
                                           true = true ∧
                                            true = true ∧
                                             true = true ∧
                                              true = true ∧
                                               true = true ∧
                                                (b8 = b8 ∧ true = true ∧ 1 = 1 ∧ 1 ≤ 1) ∧
                                                 K
                                                  (Frm.loop J ::
                                                   Frm.blk 2 ::
                                                    frm [] (bodyOf Try.f12)
                                                     [1, 1, 1, 1, 1, 1, 1, 1,
                                                      1]
                                                     [])
                                                  (Sy.mk
                                                   [SV.raw (u 0), SV.vec 1 ao' (List.length ss) cap', SV.ptr 2 bl 0,
                                                    SV.raw (u 3), SV.bool false, SV.ptr 3 q 0, SV.raw (u 6),
                                                    SV.ptr 5 b7 0, SV.ptr 7 b8 0,
                                                    SV.int IntKind.i64 (IntKind.wrap IntKind.i64 (i + (1 : Int))), SV.ptr 8 b 0,
                                                    SV.ptr 9 b_1 0, SV.raw (u 12), SV.raw (u 13),
                                                    SV.raw (u 14), SV.raw (u 15), SV.raw (u 16), SV.raw (u 17),
                                                    SV.raw (u 18), SV.raw (u 19), SV.raw (u 20), SV.raw (u 21),
                                                    SV.raw (u 22), SV.raw (u 23), SV.raw (u 24), SV.raw (u 25),
                                                    SV.raw (u 26), SV.raw (u 27), SV.raw (u 28), SV.raw (u 29),
                                                    SV.raw (u 30), SV.raw (u 31), SV.raw (u 32), SV.raw (u 33),
                                                    SV.raw (u 34), SV.raw (u 35), SV.raw (u 36), SV.raw (u 37),
                                                    SV.raw (u 38), SV.raw (u 39), SV.raw (u 40), SV.raw (u 41),
                                                    SV.raw (u 42), SV.raw (u 43), SV.raw (u 44), SV.raw (u 45),
                                                    SV.raw (u 46), SV.raw (u 47), SV.int IntKind.i64 i,
                                                    SV.vec 1 ao' (List.length ss) cap', SV.int IntKind.i64 (↑(List.length ss) : Int),
                                                    SV.bool true, SV.int IntKind.i64 i,
                                                    SV.int IntKind.i64 (IntKind.wrap IntKind.i64 (i + (1 : Int))),
                                                    SV.vec 1 ao' (List.length ss) cap', SV.int IntKind.i64 i,
                                                    SV.eptr 1 (Addr.blkD ao') (Addr.offD ao') 1 (Int.toNat i) 0,
                                                    SV.int IntKind.u8 (List.getD ss (Int.toNat i) (0 : Int)),
                                                    SV.int IntKind.i64 (IntKind.wrap IntKind.i64 (List.getD ss (Int.toNat i) (0 : Int))),
                                                    SV.vec 0 ao (List.length bs) cap, SV.int IntKind.i64 (↑(List.length bs) : Int),
                                                    SV.int IntKind.i64 (IntKind.wrap IntKind.i64 ((↑(List.length bs) : Int) + (1 : Int))),
                                                    SV.int IntKind.i64
                                                     (Int.tmod (IntKind.wrap IntKind.i64 (List.getD ss (Int.toNat i) (0 : Int)))
                                                      (IntKind.wrap IntKind.i64 ((↑(List.length bs) : Int) + (1 : Int)))),
                                                    SV.ptr 3 q 0, SV.func (Fn.func 87) [] [SV.ptr 10 b_2 0],
                                                    SV.func (Fn.func 56) []
                                                     [SV.ptr 7 b8 0, SV.ptr 9 b_1 0, SV.ptr 5 b7 0,
                                                      SV.ptr 8 b 0],
                                                    SV.tuple [], SV.bool o_1, SV.bool true, SV.ptr 3 q 0,
                                                    SV.int IntKind.i64 (↑(List.length xs_1) : Int), SV.vec 0 ao_1 (List.length bs_1) cap_1,
                                                    SV.int IntKind.i64 (↑(List.length bs_1) : Int),
                                                    SV.bool ((↑(List.length xs_1) : Int) == (↑(List.length bs_1) : Int)),
                                                    SV.bool ((↑(List.length xs_1) : Int) == (↑(List.length bs_1) : Int)), SV.bool false,
                                                    SV.raw (Value.tuple #[]), SV.raw (Value.tuple #[]), SV.raw (Value.tuple #[]),
                                                    SV.raw (Value.tuple #[]), SV.raw (Value.tuple #[]), SV.raw (Value.tuple #[]),
                                                    SV.raw (Value.tuple #[]), SV.raw (Value.tuple #[]), SV.raw (Value.tuple #[]),
                                                    SV.raw (Value.tuple #[]), SV.raw (Value.tuple #[]), SV.bool false, SV.raw (u 88),
                                                    SV.raw (u 89), SV.raw (u 90), SV.raw (u 91), SV.raw (u 92),
                                                    SV.raw (u 93), SV.raw (u 94), SV.raw (u 95), SV.raw (u 96),
                                                    SV.raw (u 97), SV.raw (u 98), SV.raw (u 99), SV.raw (u 100),
                                                    SV.raw (u 101), SV.raw (u 102), SV.raw (u 103), SV.raw (u 104),
                                                    SV.raw (u 105), SV.raw (u 106), SV.raw (u 107), SV.raw (u 108),
                                                    SV.raw (u 109), SV.raw (u 110), SV.raw (u 111), SV.raw (u 112)]
                                                   [Ent.mk (Loc.sl ao_1 cap_1) (SObj.roL 1 encI16 bs_1 (0 : Int)),
                                                    Ent.mk (Loc.sl ao'_1 cap'_1) (SObj.roL 1 encU8 ss_1 (0 : Int)),
                                                    Ent.mk (Loc.blk bl_1)
                                                     (SObj.cells [SV.vec 0 ao_1 (List.length bs_1) cap_1] (75 : TypeId)),
                                                    Ent.mk (Loc.blk q_1)
                                                     (SObj.cells
                                                      [SV.vec 4 aoq_1 (List.length xs_1) capq_1, SV.func (Fn.func (53 : FuncId)) [] [],
                                                       SV.int IntKind.i64 na_1]
                                                      (146 : TypeId)),
                                                    Ent.mk (Loc.sl aoq_1 capq_1)
                                                     (SObj.vecL (149 : TypeId) 2 encItI xs_1 ((0 : Int), (0 : Int))),
                                                    Ent.mk (Loc.blk b7)
                                                     (SObj.cells [SV.vec 6 aof_1 (List.length xs_1) capf_1] (39 : TypeId)),
                                                    Ent.mk (Loc.sl aof_1 capf_1)
                                                     (SObj.vecL (3 : TypeId) 1 encI1 (firsts xs_1 (List.length xs_1)) (0 : Int)),
                                                    Ent.mk (Loc.blk b8) (SObj.cells [SV.bool false] (4 : TypeId)),
                                                    Ent.mk (Loc.blk b) (SObj.cells [SV.int IntKind.i64 n] (3 : TypeId)),
                                                    Ent.mk (Loc.blk b_1)
                                                     (SObj.cells [SV.int IntKind.i64 (↑(atF (List.length xs_1) (Int.toNat n)) : Int)]
                                                      (3 : TypeId))])) ∧
                                         match (↑(List.length xs_1) : Int) == (↑(List.length bs_1) : Int) with
                                         | true =>
                                          b = b ∧
                                           b_1 = b_1 ∧
                                            match (↑(atF (List.length xs_1) (Int.toNat n)) : Int) == n with
                                            | true =>
                                             true = true ∧
                                              true = true ∧
                                               (b8 = b8 ∧ true = true ∧ 1 = 1 ∧ 1 ≤ 1) ∧
                                                K
                                                 (Frm.loop J ::
                                                  Frm.blk 2 ::
                                                   frm [] (bodyOf Try.f12)
                                                    [1, 1, 1, 1, 1, 1, 1, 1,
                                                     1]
                                                    [])
                                                 (Sy.mk
                                                  [SV.raw (u 0), SV.vec 1 ao' (List.length ss) cap', SV.ptr 2 bl 0,
                                                   SV.raw (u 3), SV.bool false, SV.ptr 3 q 0, SV.raw (u 6),
                                                   SV.ptr 5 b7 0, SV.ptr 7 b8 0,
                                                   SV.int IntKind.i64 (IntKind.wrap IntKind.i64 (i + (1 : Int))), SV.ptr 8 b 0,
                                                   SV.ptr 9 b_1 0, SV.raw (u 12), SV.raw (u 13),
                                                   SV.raw (u 14), SV.raw (u 15), SV.raw (u 16), SV.raw (u 17),
                                                   SV.raw (u 18), SV.raw (u 19), SV.raw (u 20), SV.raw (u 21),
                                                   SV.raw (u 22), SV.raw (u 23), SV.raw (u 24), SV.raw (u 25),
                                                   SV.raw (u 26), SV.raw (u 27), SV.raw (u 28), SV.raw (u 29),
                                                   SV.raw (u 30), SV.raw (u 31), SV.raw (u 32), SV.raw (u 33),
                                                   SV.raw (u 34), SV.raw (u 35), SV.raw (u 36), SV.raw (u 37),
                                                   SV.raw (u 38), SV.raw (u 39), SV.raw (u 40), SV.raw (u 41),
                                                   SV.raw (u 42), SV.raw (u 43), SV.raw (u 44), SV.raw (u 45),
                                                   SV.raw (u 46), SV.raw (u 47), SV.int IntKind.i64 i,
                                                   SV.vec 1 ao' (List.length ss) cap', SV.int IntKind.i64 (↑(List.length ss) : Int),
                                                   SV.bool true, SV.int IntKind.i64 i, SV.int IntKind.i64 (IntKind.wrap IntKind.i64 (i + (1 : Int))),
                                                   SV.vec 1 ao' (List.length ss) cap', SV.int IntKind.i64 i,
                                                   SV.eptr 1 (Addr.blkD ao') (Addr.offD ao') 1 (Int.toNat i) 0,
                                                   SV.int IntKind.u8 (List.getD ss (Int.toNat i) (0 : Int)),
                                                   SV.int IntKind.i64 (IntKind.wrap IntKind.i64 (List.getD ss (Int.toNat i) (0 : Int))),
                                                   SV.vec 0 ao (List.length bs) cap, SV.int IntKind.i64 (↑(List.length bs) : Int),
                                                   SV.int IntKind.i64 (IntKind.wrap IntKind.i64 ((↑(List.length bs) : Int) + (1 : Int))),
                                                   SV.int IntKind.i64
                                                    (Int.tmod (IntKind.wrap IntKind.i64 (List.getD ss (Int.toNat i) (0 : Int)))
                                                     (IntKind.wrap IntKind.i64 ((↑(List.length bs) : Int) + (1 : Int)))),
                                                   SV.ptr 3 q 0, SV.func (Fn.func 87) [] [SV.ptr 10 b_2 0],
                                                   SV.func (Fn.func 56) []
                                                    [SV.ptr 7 b8 0, SV.ptr 9 b_1 0, SV.ptr 5 b7 0,
                                                     SV.ptr 8 b 0],
                                                   SV.tuple [], SV.bool o_1, SV.bool true, SV.ptr 3 q 0,
                                                   SV.int IntKind.i64 (↑(List.length xs_1) : Int), SV.vec 0 ao_1 (List.length bs_1) cap_1,
                                                   SV.int IntKind.i64 (↑(List.length bs_1) : Int),
                                                   SV.bool ((↑(List.length xs_1) : Int) == (↑(List.length bs_1) : Int)),
                                                   SV.bool ((↑(List.length xs_1) : Int) == (↑(List.length bs_1) : Int)), SV.bool true,
                                                   SV.int IntKind.i64 (↑(atF (List.length xs_1) (Int.toNat n)) : Int), SV.int IntKind.i64 n,
                                                   SV.bool ((↑(atF (List.length xs_1) (Int.toNat n)) : Int) == n), SV.bool true,
                                                   SV.raw (Value.tuple #[]), SV.raw (Value.tuple #[]), SV.raw (Value.tuple #[]),
                                                   SV.raw (Value.tuple #[]), SV.raw (Value.tuple #[]), SV.raw (Value.tuple #[]), SV.bool true,
                                                   SV.bool true, SV.raw (u 88), SV.raw (u 89), SV.raw (u 90),
                                                   SV.raw (u 91), SV.raw (u 92), SV.raw (u 93), SV.raw (u 94),
                                                   SV.raw (u 95), SV.raw (u 96), SV.raw (u 97), SV.raw (u 98),
                                                   SV.raw (u 99), SV.raw (u 100), SV.raw (u 101), SV.raw (u 102),
                                                   SV.raw (u 103), SV.raw (u 104), SV.raw (u 105), SV.raw (u 106),
                                                   SV.raw (u 107), SV.raw (u 108), SV.raw (u 109), SV.raw (u 110),
                                                   SV.raw (u 111), SV.raw (u 112)]
                                                  [Ent.mk (Loc.sl ao_1 cap_1) (SObj.roL 1 encI16 bs_1 (0 : Int)),
                                                   Ent.mk (Loc.sl ao'_1 cap'_1) (SObj.roL 1 encU8 ss_1 (0 : Int)),
                                                   Ent.mk (Loc.blk bl_1) (SObj.cells [SV.vec 0 ao_1 (List.length bs_1) cap_1] (75 : TypeId)),
                                                   Ent.mk (Loc.blk q_1)
                                                    (SObj.cells
                                                     [SV.vec 4 aoq_1 (List.length xs_1) capq_1, SV.func (Fn.func (53 : FuncId)) [] [],
                                                      SV.int IntKind.i64 na_1]
                                                     (146 : TypeId)),
                                                   Ent.mk (Loc.sl aoq_1 capq_1)
                                                    (SObj.vecL (149 : TypeId) 2 encItI xs_1 ((0 : Int), (0 : Int))),
                                                   Ent.mk (Loc.blk b7) (SObj.cells [SV.vec 6 aof_1 (List.length xs_1) capf_1] (39 : TypeId)),
                                                   Ent.mk (Loc.sl aof_1 capf_1)
                                                    (SObj.vecL (3 : TypeId) 1 encI1 (firsts xs_1 (List.length xs_1)) (0 : Int)),
                                                   Ent.mk (Loc.blk b8) (SObj.cells [SV.bool true] (4 : TypeId)),
                                                   Ent.mk (Loc.blk b) (SObj.cells [SV.int IntKind.i64 n] (3 : TypeId)),
                                                   Ent.mk (Loc.blk b_1)
                                                    (SObj.cells [SV.int IntKind.i64 (↑(atF (List.length xs_1) (Int.toNat n)) : Int)] (3 : TypeId))])
                                            | false =>
                                             b = b ∧
                                              match n == (0 : Int) with
                                              | true =>
                                               b_1 = b_1 ∧
                                                (b8 = b8 ∧ true = true ∧ 1 = 1 ∧ 1 ≤ 1) ∧
                                                 K
                                                  (Frm.loop J ::
                                                   Frm.blk 2 ::
                                                    frm [] (bodyOf Try.f12)
                                                     [1, 1, 1, 1, 1, 1, 1, 1,
                                                      1]
                                                     [])
                                                  (Sy.mk
                                                   [SV.raw (u 0), SV.vec 1 ao' (List.length ss) cap', SV.ptr 2 bl 0,
                                                    SV.raw (u 3), SV.bool false, SV.ptr 3 q 0, SV.raw (u 6),
                                                    SV.ptr 5 b7 0, SV.ptr 7 b8 0,
                                                    SV.int IntKind.i64 (IntKind.wrap IntKind.i64 (i + (1 : Int))), SV.ptr 8 b 0,
                                                    SV.ptr 9 b_1 0, SV.raw (u 12), SV.raw (u 13),
                                                    SV.raw (u 14), SV.raw (u 15), SV.raw (u 16), SV.raw (u 17),
                                                    SV.raw (u 18), SV.raw (u 19), SV.raw (u 20), SV.raw (u 21),
                                                    SV.raw (u 22), SV.raw (u 23), SV.raw (u 24), SV.raw (u 25),
                                                    SV.raw (u 26), SV.raw (u 27), SV.raw (u 28), SV.raw (u 29),
                                                    SV.raw (u 30), SV.raw (u 31), SV.raw (u 32), SV.raw (u 33),
                                                    SV.raw (u 34), SV.raw (u 35), SV.raw (u 36), SV.raw (u 37),
                                                    SV.raw (u 38), SV.raw (u 39), SV.raw (u 40), SV.raw (u 41),
                                                    SV.raw (u 42), SV.raw (u 43), SV.raw (u 44), SV.raw (u 45),
                                                    SV.raw (u 46), SV.raw (u 47), SV.int IntKind.i64 i,
                                                    SV.vec 1 ao' (List.length ss) cap', SV.int IntKind.i64 (↑(List.length ss) : Int),
                                                    SV.bool true, SV.int IntKind.i64 i,
                                                    SV.int IntKind.i64 (IntKind.wrap IntKind.i64 (i + (1 : Int))),
                                                    SV.vec 1 ao' (List.length ss) cap', SV.int IntKind.i64 i,
                                                    SV.eptr 1 (Addr.blkD ao') (Addr.offD ao') 1 (Int.toNat i) 0,
                                                    SV.int IntKind.u8 (List.getD ss (Int.toNat i) (0 : Int)),
                                                    SV.int IntKind.i64 (IntKind.wrap IntKind.i64 (List.getD ss (Int.toNat i) (0 : Int))),
                                                    SV.vec 0 ao (List.length bs) cap, SV.int IntKind.i64 (↑(List.length bs) : Int),
                                                    SV.int IntKind.i64 (IntKind.wrap IntKind.i64 ((↑(List.length bs) : Int) + (1 : Int))),
                                                    SV.int IntKind.i64
                                                     (Int.tmod (IntKind.wrap IntKind.i64 (List.getD ss (Int.toNat i) (0 : Int)))
                                                      (IntKind.wrap IntKind.i64 ((↑(List.length bs) : Int) + (1 : Int)))),
                                                    SV.ptr 3 q 0, SV.func (Fn.func 87) [] [SV.ptr 10 b_2 0],
                                                    SV.func (Fn.func 56) []
                                                     [SV.ptr 7 b8 0, SV.ptr 9 b_1 0, SV.ptr 5 b7 0,
                                                      SV.ptr 8 b 0],
                                                    SV.tuple [], SV.bool o_1, SV.bool true, SV.ptr 3 q 0,
                                                    SV.int IntKind.i64 (↑(List.length xs_1) : Int), SV.vec 0 ao_1 (List.length bs_1) cap_1,
                                                    SV.int IntKind.i64 (↑(List.length bs_1) : Int),
                                                    SV.bool ((↑(List.length xs_1) : Int) == (↑(List.length bs_1) : Int)),
                                                    SV.bool ((↑(List.length xs_1) : Int) == (↑(List.length bs_1) : Int)), SV.bool true,
                                                    SV.int IntKind.i64 (↑(atF (List.length xs_1) (Int.toNat n)) : Int), SV.int IntKind.i64 n,
                                                    SV.bool ((↑(atF (List.length xs_1) (Int.toNat n)) : Int) == n), SV.bool false,
                                                    SV.int IntKind.i64 n, SV.bool (n == (0 : Int)), SV.bool true,
                                                    SV.int IntKind.i64 (↑(atF (List.length xs_1) (Int.toNat n)) : Int),
                                                    SV.bool (decide ((↑(atF (List.length xs_1) (Int.toNat n)) : Int) ≤ (1 : Int))),
                                                    SV.bool (decide ((↑(atF (List.length xs_1) (Int.toNat n)) : Int) ≤ (1 : Int))),
                                                    SV.bool (decide ((↑(atF (List.length xs_1) (Int.toNat n)) : Int) ≤ (1 : Int))),
                                                    SV.bool (decide ((↑(atF (List.length xs_1) (Int.toNat n)) : Int) ≤ (1 : Int))),
                                                    SV.raw (u 88), SV.raw (u 89), SV.raw (u 90), SV.raw (u 91),
                                                    SV.raw (u 92), SV.raw (u 93), SV.raw (u 94), SV.raw (u 95),
                                                    SV.raw (u 96), SV.raw (u 97), SV.raw (u 98), SV.raw (u 99),
                                                    SV.raw (u 100), SV.raw (u 101), SV.raw (u 102), SV.raw (u 103),
                                                    SV.raw (u 104), SV.raw (u 105), SV.raw (u 106), SV.raw (u 107),
                                                    SV.raw (u 108), SV.raw (u 109), SV.raw (u 110), SV.raw (u 111),
                                                    SV.raw (u 112)]
                                                   [Ent.mk (Loc.sl ao_1 cap_1) (SObj.roL 1 encI16 bs_1 (0 : Int)),
                                                    Ent.mk (Loc.sl ao'_1 cap'_1) (SObj.roL 1 encU8 ss_1 (0 : Int)),
                                                    Ent.mk (Loc.blk bl_1)
                                                     (SObj.cells [SV.vec 0 ao_1 (List.length bs_1) cap_1] (75 : TypeId)),
                                                    Ent.mk (Loc.blk q_1)
                                                     (SObj.cells
                                                      [SV.vec 4 aoq_1 (List.length xs_1) capq_1, SV.func (Fn.func (53 : FuncId)) [] [],
                                                       SV.int IntKind.i64 na_1]
                                                      (146 : TypeId)),
                                                    Ent.mk (Loc.sl aoq_1 capq_1)
                                                     (SObj.vecL (149 : TypeId) 2 encItI xs_1 ((0 : Int), (0 : Int))),
                                                    Ent.mk (Loc.blk b7)
                                                     (SObj.cells [SV.vec 6 aof_1 (List.length xs_1) capf_1] (39 : TypeId)),
                                                    Ent.mk (Loc.sl aof_1 capf_1)
                                                     (SObj.vecL (3 : TypeId) 1 encI1 (firsts xs_1 (List.length xs_1)) (0 : Int)),
                                                    Ent.mk (Loc.blk b8)
                                                     (SObj.cells [SV.bool (decide ((↑(atF (List.length xs_1) (Int.toNat n)) : Int) ≤ (1 : Int)))]
                                                      (4 : TypeId)),
                                                    Ent.mk (Loc.blk b) (SObj.cells [SV.int IntKind.i64 n] (3 : TypeId)),
                                                    Ent.mk (Loc.blk b_1)
                                                     (SObj.cells [SV.int IntKind.i64 (↑(atF (List.length xs_1) (Int.toNat n)) : Int)]
                                                      (3 : TypeId))])
                                              | false =>
                                               (b8 = b8 ∧ true = true ∧ 1 = 1 ∧ 1 ≤ 1) ∧
                                                K
                                                 (Frm.loop J ::
                                                  Frm.blk 2 ::
                                                   frm [] (bodyOf Try.f12)
                                                    [1, 1, 1, 1, 1, 1, 1, 1,
                                                     1]
                                                    [])
                                                 (Sy.mk
                                                  [SV.raw (u 0), SV.vec 1 ao' (List.length ss) cap', SV.ptr 2 bl 0,
                                                   SV.raw (u 3), SV.bool false, SV.ptr 3 q 0, SV.raw (u 6),
                                                   SV.ptr 5 b7 0, SV.ptr 7 b8 0,
                                                   SV.int IntKind.i64 (IntKind.wrap IntKind.i64 (i + (1 : Int))), SV.ptr 8 b 0,
                                                   SV.ptr 9 b_1 0, SV.raw (u 12), SV.raw (u 13),
                                                   SV.raw (u 14), SV.raw (u 15), SV.raw (u 16), SV.raw (u 17),
                                                   SV.raw (u 18), SV.raw (u 19), SV.raw (u 20), SV.raw (u 21),
                                                   SV.raw (u 22), SV.raw (u 23), SV.raw (u 24), SV.raw (u 25),
                                                   SV.raw (u 26), SV.raw (u 27), SV.raw (u 28), SV.raw (u 29),
                                                   SV.raw (u 30), SV.raw (u 31), SV.raw (u 32), SV.raw (u 33),
                                                   SV.raw (u 34), SV.raw (u 35), SV.raw (u 36), SV.raw (u 37),
                                                   SV.raw (u 38), SV.raw (u 39), SV.raw (u 40), SV.raw (u 41),
                                                   SV.raw (u 42), SV.raw (u 43), SV.raw (u 44), SV.raw (u 45),
                                                   SV.raw (u 46), SV.raw (u 47), SV.int IntKind.i64 i,
                                                   SV.vec 1 ao' (List.length ss) cap', SV.int IntKind.i64 (↑(List.length ss) : Int),
                                                   SV.bool true, SV.int IntKind.i64 i, SV.int IntKind.i64 (IntKind.wrap IntKind.i64 (i + (1 : Int))),
                                                   SV.vec 1 ao' (List.length ss) cap', SV.int IntKind.i64 i,
                                                   SV.eptr 1 (Addr.blkD ao') (Addr.offD ao') 1 (Int.toNat i) 0,
                                                   SV.int IntKind.u8 (List.getD ss (Int.toNat i) (0 : Int)),
                                                   SV.int IntKind.i64 (IntKind.wrap IntKind.i64 (List.getD ss (Int.toNat i) (0 : Int))),
                                                   SV.vec 0 ao (List.length bs) cap, SV.int IntKind.i64 (↑(List.length bs) : Int),
                                                   SV.int IntKind.i64 (IntKind.wrap IntKind.i64 ((↑(List.length bs) : Int) + (1 : Int))),
                                                   SV.int IntKind.i64
                                                    (Int.tmod (IntKind.wrap IntKind.i64 (List.getD ss (Int.toNat i) (0 : Int)))
                                                     (IntKind.wrap IntKind.i64 ((↑(List.length bs) : Int) + (1 : Int)))),
                                                   SV.ptr 3 q 0, SV.func (Fn.func 87) [] [SV.ptr 10 b_2 0],
                                                   SV.func (Fn.func 56) []
                                                    [SV.ptr 7 b8 0, SV.ptr 9 b_1 0, SV.ptr 5 b7 0,
                                                     SV.ptr 8 b 0],
                                                   SV.tuple [], SV.bool o_1, SV.bool true, SV.ptr 3 q 0,
                                                   SV.int IntKind.i64 (↑(List.length xs_1) : Int), SV.vec 0 ao_1 (List.length bs_1) cap_1,
                                                   SV.int IntKind.i64 (↑(List.length bs_1) : Int),
                                                   SV.bool ((↑(List.length xs_1) : Int) == (↑(List.length bs_1) : Int)),
                                                   SV.bool ((↑(List.length xs_1) : Int) == (↑(List.length bs_1) : Int)), SV.bool true,
                                                   SV.int IntKind.i64 (↑(atF (List.length xs_1) (Int.toNat n)) : Int), SV.int IntKind.i64 n,
                                                   SV.bool ((↑(atF (List.length xs_1) (Int.toNat n)) : Int) == n), SV.bool false,
                                                   SV.int IntKind.i64 n, SV.bool (n == (0 : Int)), SV.bool false, SV.raw (Value.tuple #[]),
                                                   SV.raw (Value.tuple #[]), SV.bool false, SV.bool false, SV.bool false, SV.raw (u 88),
                                                   SV.raw (u 89), SV.raw (u 90), SV.raw (u 91), SV.raw (u 92),
                                                   SV.raw (u 93), SV.raw (u 94), SV.raw (u 95), SV.raw (u 96),
                                                   SV.raw (u 97), SV.raw (u 98), SV.raw (u 99), SV.raw (u 100),
                                                   SV.raw (u 101), SV.raw (u 102), SV.raw (u 103), SV.raw (u 104),
                                                   SV.raw (u 105), SV.raw (u 106), SV.raw (u 107), SV.raw (u 108),
                                                   SV.raw (u 109), SV.raw (u 110), SV.raw (u 111), SV.raw (u 112)]
                                                  [Ent.mk (Loc.sl ao_1 cap_1) (SObj.roL 1 encI16 bs_1 (0 : Int)),
                                                   Ent.mk (Loc.sl ao'_1 cap'_1) (SObj.roL 1 encU8 ss_1 (0 : Int)),
                                                   Ent.mk (Loc.blk bl_1) (SObj.cells [SV.vec 0 ao_1 (List.length bs_1) cap_1] (75 : TypeId)),
                                                   Ent.mk (Loc.blk q_1)
                                                    (SObj.cells
                                                     [SV.vec 4 aoq_1 (List.length xs_1) capq_1, SV.func (Fn.func (53 : FuncId)) [] [],
                                                      SV.int IntKind.i64 na_1]
                                                     (146 : TypeId)),
                                                   Ent.mk (Loc.sl aoq_1 capq_1)
                                                    (SObj.vecL (149 : TypeId) 2 encItI xs_1 ((0 : Int), (0 : Int))),
                                                   Ent.mk (Loc.blk b7) (SObj.cells [SV.vec 6 aof_1 (List.length xs_1) capf_1] (39 : TypeId)),
                                                   Ent.mk (Loc.sl aof_1 capf_1)
                                                    (SObj.vecL (3 : TypeId) 1 encI1 (firsts xs_1 (List.length xs_1)) (0 : Int)),
                                                   Ent.mk (Loc.blk b8) (SObj.cells [SV.bool false] (4 : TypeId)),
                                                   Ent.mk (Loc.blk b) (SObj.cells [SV.int IntKind.i64 n] (3 : TypeId)),
                                                   Ent.mk (Loc.blk b_1)
                                                    (SObj.cells [SV.int IntKind.i64 (↑(atF (List.length xs_1) (Int.toNat n)) : Int)] (3 : TypeId))])
                                         | false =>
                                          true = true ∧
                                           true = true ∧
                                            true = true ∧
                                             true = true ∧
                                              true = true ∧
                                               true = true ∧
                                                (b8 = b8 ∧ true = true ∧ 1 = 1 ∧ 1 ≤ 1) ∧
                                                 K
                                                  (Frm.loop J ::
                                                   Frm.blk 2 ::
                                                    frm [] (bodyOf Try.f12)
                                                     [1, 1, 1, 1, 1, 1, 1, 1,
                                                      1]
                                                     [])
                                                  (Sy.mk
                                                   [SV.raw (u 0), SV.vec 1 ao' (List.length ss) cap', SV.ptr 2 bl 0,
                                                    SV.raw (u 3), SV.bool false, SV.ptr 3 q 0, SV.raw (u 6),
                                                    SV.ptr 5 b7 0, SV.ptr 7 b8 0,
                                                    SV.int IntKind.i64 (IntKind.wrap IntKind.i64 (i + (1 : Int))), SV.ptr 8 b 0,
                                                    SV.ptr 9 b_1 0, SV.raw (u 12), SV.raw (u 13),
                                                    SV.raw (u 14), SV.raw (u 15), SV.raw (u 16), SV.raw (u 17),
                                                    SV.raw (u 18), SV.raw (u 19), SV.raw (u 20), SV.raw (u 21),
                                                    SV.raw (u 22), SV.raw (u 23), SV.raw (u 24), SV.raw (u 25),
                                                    SV.raw (u 26), SV.raw (u 27), SV.raw (u 28), SV.raw (u 29),
                                                    SV.raw (u 30), SV.raw (u 31), SV.raw (u 32), SV.raw (u 33),
                                                    SV.raw (u 34), SV.raw (u 35), SV.raw (u 36), SV.raw (u 37),
                                                    SV.raw (u 38), SV.raw (u 39), SV.raw (u 40), SV.raw (u 41),
                                                    SV.raw (u 42), SV.raw (u 43), SV.raw (u 44), SV.raw (u 45),
                                                    SV.raw (u 46), SV.raw (u 47), SV.int IntKind.i64 i,
                                                    SV.vec 1 ao' (List.length ss) cap', SV.int IntKind.i64 (↑(List.length ss) : Int),
                                                    SV.bool true, SV.int IntKind.i64 i,
                                                    SV.int IntKind.i64 (IntKind.wrap IntKind.i64 (i + (1 : Int))),
                                                    SV.vec 1 ao' (List.length ss) cap', SV.int IntKind.i64 i,
                                                    SV.eptr 1 (Addr.blkD ao') (Addr.offD ao') 1 (Int.toNat i) 0,
                                                    SV.int IntKind.u8 (List.getD ss (Int.toNat i) (0 : Int)),
                                                    SV.int IntKind.i64 (IntKind.wrap IntKind.i64 (List.getD ss (Int.toNat i) (0 : Int))),
                                                    SV.vec 0 ao (List.length bs) cap, SV.int IntKind.i64 (↑(List.length bs) : Int),
                                                    SV.int IntKind.i64 (IntKind.wrap IntKind.i64 ((↑(List.length bs) : Int) + (1 : Int))),
                                                    SV.int IntKind.i64
                                                     (Int.tmod (IntKind.wrap IntKind.i64 (List.getD ss (Int.toNat i) (0 : Int)))
                                                      (IntKind.wrap IntKind.i64 ((↑(List.length bs) : Int) + (1 : Int)))),
                                                    SV.ptr 3 q 0, SV.func (Fn.func 87) [] [SV.ptr 10 b_2 0],
                                                    SV.func (Fn.func 56) []
                                                     [SV.ptr 7 b8 0, SV.ptr 9 b_1 0, SV.ptr 5 b7 0,
                                                      SV.ptr 8 b 0],
                                                    SV.tuple [], SV.bool o_1, SV.bool true, SV.ptr 3 q 0,
                                                    SV.int IntKind.i64 (↑(List.length xs_1) : Int), SV.vec 0 ao_1 (List.length bs_1) cap_1,
                                                    SV.int IntKind.i64 (↑(List.length bs_1) : Int),
                                                    SV.bool ((↑(List.length xs_1) : Int) == (↑(List.length bs_1) : Int)),
                                                    SV.bool ((↑(List.length xs_1) : Int) == (↑(List.length bs_1) : Int)), SV.bool false,
                                                    SV.raw (Value.tuple #[]), SV.raw (Value.tuple #[]), SV.raw (Value.tuple #[]),
                                                    SV.raw (Value.tuple #[]), SV.raw (Value.tuple #[]), SV.raw (Value.tuple #[]),
                                                    SV.raw (Value.tuple #[]), SV.raw (Value.tuple #[]), SV.raw (Value.tuple #[]),
                                                    SV.raw (Value.tuple #[]), SV.raw (Value.tuple #[]), SV.bool false, SV.raw (u 88),
                                                    SV.raw (u 89), SV.raw (u 90), SV.raw (u 91), SV.raw (u 92),
                                                    SV.raw (u 93), SV.raw (u 94), SV.raw (u 95), SV.raw (u 96),
                                                    SV.raw (u 97), SV.raw (u 98), SV.raw (u 99), SV.raw (u 100),
                                                    SV.raw (u 101), SV.raw (u 102), SV.raw (u 103), SV.raw (u 104),
                                                    SV.raw (u 105), SV.raw (u 106), SV.raw (u 107), SV.raw (u 108),
                                                    SV.raw (u 109), SV.raw (u 110), SV.raw (u 111), SV.raw (u 112)]
                                                   [Ent.mk (Loc.sl ao_1 cap_1) (SObj.roL 1 encI16 bs_1 (0 : Int)),
                                                    Ent.mk (Loc.sl ao'_1 cap'_1) (SObj.roL 1 encU8 ss_1 (0 : Int)),
                                                    Ent.mk (Loc.blk bl_1)
                                                     (SObj.cells [SV.vec 0 ao_1 (List.length bs_1) cap_1] (75 : TypeId)),
                                                    Ent.mk (Loc.blk q_1)
                                                     (SObj.cells
                                                      [SV.vec 4 aoq_1 (List.length xs_1) capq_1, SV.func (Fn.func (53 : FuncId)) [] [],
                                                       SV.int IntKind.i64 na_1]
                                                      (146 : TypeId)),
                                                    Ent.mk (Loc.sl aoq_1 capq_1)
                                                     (SObj.vecL (149 : TypeId) 2 encItI xs_1 ((0 : Int), (0 : Int))),
                                                    Ent.mk (Loc.blk b7)
                                                     (SObj.cells [SV.vec 6 aof_1 (List.length xs_1) capf_1] (39 : TypeId)),
                                                    Ent.mk (Loc.sl aof_1 capf_1)
                                                     (SObj.vecL (3 : TypeId) 1 encI1 (firsts xs_1 (List.length xs_1)) (0 : Int)),
                                                    Ent.mk (Loc.blk b8) (SObj.cells [SV.bool false] (4 : TypeId)),
                                                    Ent.mk (Loc.blk b) (SObj.cells [SV.int IntKind.i64 n] (3 : TypeId)),
                                                    Ent.mk (Loc.blk b_1)
                                                     (SObj.cells [SV.int IntKind.i64 (↑(atF (List.length xs_1) (Int.toNat n)) : Int)]
                                                      (3 : TypeId))])
                                  | false =>
                                   ((true = true ∧
                                    true = true ∧
                                     true = true ∧
                                      true = true ∧
                                       true = true ∧
                                        true = true ∧
                                         (b8 = b8 ∧ true = true ∧ 1 = 1 ∧ 1 ≤ 1) ∧
                                          K
                                           (Frm.loop J ::
                                            Frm.blk 2 ::
                                             frm [] (bodyOf Try.f12)
                                              [1, 1, 1, 1, 1, 1, 1, 1, 1] [])
                                           (Sy.mk
                                            [SV.raw (u 0), SV.vec 1 ao' (List.length ss) cap', SV.ptr 2 bl 0,
                                             SV.raw (u 3), SV.bool false, SV.ptr 3 q 0, SV.raw (u 6),
                                             SV.ptr 5 b7 0, SV.ptr 7 b8 0,
                                             SV.int IntKind.i64 (IntKind.wrap IntKind.i64 (i + (1 : Int))), SV.ptr 8 b 0,
                                             SV.ptr 9 b_1 0, SV.raw (u 12), SV.raw (u 13), SV.raw (u 14),
                                             SV.raw (u 15), SV.raw (u 16), SV.raw (u 17), SV.raw (u 18),
                                             SV.raw (u 19), SV.raw (u 20), SV.raw (u 21), SV.raw (u 22),
                                             SV.raw (u 23), SV.raw (u 24), SV.raw (u 25), SV.raw (u 26),
                                             SV.raw (u 27), SV.raw (u 28), SV.raw (u 29), SV.raw (u 30),
                                             SV.raw (u 31), SV.raw (u 32), SV.raw (u 33), SV.raw (u 34),
                                             SV.raw (u 35), SV.raw (u 36), SV.raw (u 37), SV.raw (u 38),
                                             SV.raw (u 39), SV.raw (u 40), SV.raw (u 41), SV.raw (u 42),
                                             SV.raw (u 43), SV.raw (u 44), SV.raw (u 45), SV.raw (u 46),
                                             SV.raw (u 47), SV.int IntKind.i64 i, SV.vec 1 ao' (List.length ss) cap',
                                             SV.int IntKind.i64 (↑(List.length ss) : Int), SV.bool true, SV.int IntKind.i64 i,
                                             SV.int IntKind.i64 (IntKind.wrap IntKind.i64 (i + (1 : Int))), SV.vec 1 ao' (List.length ss) cap',
                                             SV.int IntKind.i64 i, SV.eptr 1 (Addr.blkD ao') (Addr.offD ao') 1 (Int.toNat i) 0,
                                             SV.int IntKind.u8 (List.getD ss (Int.toNat i) (0 : Int)),
                                             SV.int IntKind.i64 (IntKind.wrap IntKind.i64 (List.getD ss (Int.toNat i) (0 : Int))),
                                             SV.vec 0 ao (List.length bs) cap, SV.int IntKind.i64 (↑(List.length bs) : Int),
                                             SV.int IntKind.i64 (IntKind.wrap IntKind.i64 ((↑(List.length bs) : Int) + (1 : Int))),
                                             SV.int IntKind.i64
                                              (Int.tmod (IntKind.wrap IntKind.i64 (List.getD ss (Int.toNat i) (0 : Int)))
                                               (IntKind.wrap IntKind.i64 ((↑(List.length bs) : Int) + (1 : Int)))),
                                             SV.ptr 3 q 0, SV.func (Fn.func 87) [] [SV.ptr 10 b_2 0],
                                             SV.func (Fn.func 56) []
                                              [SV.ptr 7 b8 0, SV.ptr 9 b_1 0, SV.ptr 5 b7 0,
                                               SV.ptr 8 b 0],
                                             SV.tuple [], SV.bool o_1, SV.bool false, SV.raw (Value.tuple #[]), SV.raw (Value.tuple #[]),
                                             SV.raw (Value.tuple #[]), SV.raw (Value.tuple #[]), SV.raw (Value.tuple #[]), SV.bool false,
                                             SV.bool false, SV.raw (Value.tuple #[]), SV.raw (Value.tuple #[]), SV.raw (Value.tuple #[]),
                                             SV.raw (Value.tuple #[]), SV.raw (Value.tuple #[]), SV.raw (Value.tuple #[]), SV.raw (Value.tuple #[]),
                                             SV.raw (Value.tuple #[]), SV.raw (Value.tuple #[]), SV.raw (Value.tuple #[]), SV.raw (Value.tuple #[]),
                                             SV.bool false, SV.raw (u 88), SV.raw (u 89), SV.raw (u 90), SV.raw (u 91),
                                             SV.raw (u 92), SV.raw (u 93), SV.raw (u 94), SV.raw (u 95),
                                             SV.raw (u 96), SV.raw (u 97), SV.raw (u 98), SV.raw (u 99),
                                             SV.raw (u 100), SV.raw (u 101), SV.raw (u 102), SV.raw (u 103),
                                             SV.raw (u 104), SV.raw (u 105), SV.raw (u 106), SV.raw (u 107),
                                             SV.raw (u 108), SV.raw (u 109), SV.raw (u 110), SV.raw (u 111),
                                             SV.raw (u 112)]
                                            [Ent.mk (Loc.sl ao_1 cap_1) (SObj.roL 1 encI16 bs_1 (0 : Int)),
                                             Ent.mk (Loc.sl ao'_1 cap'_1) (SObj.roL 1 encU8 ss_1 (0 : Int)),
                                             Ent.mk (Loc.blk bl_1) (SObj.cells [SV.vec 0 ao_1 (List.length bs_1) cap_1] (75 : TypeId)),
                                             Ent.mk (Loc.blk q_1)
                                              (SObj.cells
                                               [SV.vec 4 aoq_1 (List.length xs_1) capq_1, SV.func (Fn.func (53 : FuncId)) [] [],
                                                SV.int IntKind.i64 na_1]
                                               (146 : TypeId)),
                                             Ent.mk (Loc.sl aoq_1 capq_1) (SObj.vecL (149 : TypeId) 2 encItI xs_1 ((0 : Int), (0 : Int))),
                                             Ent.mk (Loc.blk b7) (SObj.cells [SV.vec 6 aof_1 (List.length xs_1) capf_1] (39 : TypeId)),
                                             Ent.mk (Loc.sl aof_1 capf_1)
                                              (SObj.vecL (3 : TypeId) 1 encI1 (firsts xs_1 (List.length xs_1)) (0 : Int)),
                                             Ent.mk (Loc.blk b8) (SObj.cells [SV.bool false] (4 : TypeId)),
                                             Ent.mk (Loc.blk b) (SObj.cells [SV.int IntKind.i64 n] (3 : TypeId)),
                                             Ent.mk (Loc.blk b_1)
                                              (SObj.cells [SV.int IntKind.i64 (↑(atF (List.length xs_1) (Int.toNat n)) : Int)] (3 : TypeId))])) ∧
                                    true = true ∧
                                     true = true ∧
                                      true = true ∧
                                       true = true ∧
                                        true = true ∧
                                         true = true ∧
                                          (b8 = b8 ∧ true = true ∧ 1 = 1 ∧ 1 ≤ 1) ∧
                                           K
                                            (Frm.loop J ::
                                             Frm.blk 2 ::
                                              frm [] (bodyOf Try.f12)
                                               [1, 1, 1, 1, 1, 1, 1, 1, 1] [])
                                            (Sy.mk
                                             [SV.raw (u 0), SV.vec 1 ao' (List.length ss) cap', SV.ptr 2 bl 0,
                                              SV.raw (u 3), SV.bool false, SV.ptr 3 q 0, SV.raw (u 6),
                                              SV.ptr 5 b7 0, SV.ptr 7 b8 0,
                                              SV.int IntKind.i64 (IntKind.wrap IntKind.i64 (i + (1 : Int))), SV.ptr 8 b 0,
                                              SV.ptr 9 b_1 0, SV.raw (u 12), SV.raw (u 13), SV.raw (u 14),
                                              SV.raw (u 15), SV.raw (u 16), SV.raw (u 17), SV.raw (u 18),
                                              SV.raw (u 19), SV.raw (u 20), SV.raw (u 21), SV.raw (u 22),
                                              SV.raw (u 23), SV.raw (u 24), SV.raw (u 25), SV.raw (u 26),
                                              SV.raw (u 27), SV.raw (u 28), SV.raw (u 29), SV.raw (u 30),
                                              SV.raw (u 31), SV.raw (u 32), SV.raw (u 33), SV.raw (u 34),
                                              SV.raw (u 35), SV.raw (u 36), SV.raw (u 37), SV.raw (u 38),
                                              SV.raw (u 39), SV.raw (u 40), SV.raw (u 41), SV.raw (u 42),
                                              SV.raw (u 43), SV.raw (u 44), SV.raw (u 45), SV.raw (u 46),
                                              SV.raw (u 47), SV.int IntKind.i64 i, SV.vec 1 ao' (List.length ss) cap',
                                              SV.int IntKind.i64 (↑(List.length ss) : Int), SV.bool true, SV.int IntKind.i64 i,
                                              SV.int IntKind.i64 (IntKind.wrap IntKind.i64 (i + (1 : Int))), SV.vec 1 ao' (List.length ss) cap',
                                              SV.int IntKind.i64 i, SV.eptr 1 (Addr.blkD ao') (Addr.offD ao') 1 (Int.toNat i) 0,
                                              SV.int IntKind.u8 (List.getD ss (Int.toNat i) (0 : Int)),
                                              SV.int IntKind.i64 (IntKind.wrap IntKind.i64 (List.getD ss (Int.toNat i) (0 : Int))),
                                              SV.vec 0 ao (List.length bs) cap, SV.int IntKind.i64 (↑(List.length bs) : Int),
                                              SV.int IntKind.i64 (IntKind.wrap IntKind.i64 ((↑(List.length bs) : Int) + (1 : Int))),
                                              SV.int IntKind.i64
                                               (Int.tmod (IntKind.wrap IntKind.i64 (List.getD ss (Int.toNat i) (0 : Int)))
                                                (IntKind.wrap IntKind.i64 ((↑(List.length bs) : Int) + (1 : Int)))),
                                              SV.ptr 3 q 0, SV.func (Fn.func 87) [] [SV.ptr 10 b_2 0],
                                              SV.func (Fn.func 56) []
                                               [SV.ptr 7 b8 0, SV.ptr 9 b_1 0, SV.ptr 5 b7 0,
                                                SV.ptr 8 b 0],
                                              SV.tuple [], SV.bool o_1, SV.bool false, SV.raw (Value.tuple #[]), SV.raw (Value.tuple #[]),
                                              SV.raw (Value.tuple #[]), SV.raw (Value.tuple #[]), SV.raw (Value.tuple #[]), SV.bool false,
                                              SV.bool false, SV.raw (Value.tuple #[]), SV.raw (Value.tuple #[]), SV.raw (Value.tuple #[]),
                                              SV.raw (Value.tuple #[]), SV.raw (Value.tuple #[]), SV.raw (Value.tuple #[]), SV.raw (Value.tuple #[]),
                                              SV.raw (Value.tuple #[]), SV.raw (Value.tuple #[]), SV.raw (Value.tuple #[]), SV.raw (Value.tuple #[]),
                                              SV.bool false, SV.raw (u 88), SV.raw (u 89), SV.raw (u 90), SV.raw (u 91),
                                              SV.raw (u 92), SV.raw (u 93), SV.raw (u 94), SV.raw (u 95),
                                              SV.raw (u 96), SV.raw (u 97), SV.raw (u 98), SV.raw (u 99),
                                              SV.raw (u 100), SV.raw (u 101), SV.raw (u 102), SV.raw (u 103),
                                              SV.raw (u 104), SV.raw (u 105), SV.raw (u 106), SV.raw (u 107),
                                              SV.raw (u 108), SV.raw (u 109), SV.raw (u 110), SV.raw (u 111),
                                              SV.raw (u 112)]
                                             [Ent.mk (Loc.sl ao_1 cap_1) (SObj.roL 1 encI16 bs_1 (0 : Int)),
                                              Ent.mk (Loc.sl ao'_1 cap'_1) (SObj.roL 1 encU8 ss_1 (0 : Int)),
                                              Ent.mk (Loc.blk bl_1) (SObj.cells [SV.vec 0 ao_1 (List.length bs_1) cap_1] (75 : TypeId)),
                                              Ent.mk (Loc.blk q_1)
                                               (SObj.cells
                                                [SV.vec 4 aoq_1 (List.length xs_1) capq_1, SV.func (Fn.func (53 : FuncId)) [] [],
                                                 SV.int IntKind.i64 na_1]
                                                (146 : TypeId)),
                                              Ent.mk (Loc.sl aoq_1 capq_1) (SObj.vecL (149 : TypeId) 2 encItI xs_1 ((0 : Int), (0 : Int))),
                                              Ent.mk (Loc.blk b7) (SObj.cells [SV.vec 6 aof_1 (List.length xs_1) capf_1] (39 : TypeId)),
                                              Ent.mk (Loc.sl aof_1 capf_1)
                                               (SObj.vecL (3 : TypeId) 1 encI1 (firsts xs_1 (List.length xs_1)) (0 : Int)),
                                              Ent.mk (Loc.blk b8) (SObj.cells [SV.bool false] (4 : TypeId)),
                                              Ent.mk (Loc.blk b) (SObj.cells [SV.int IntKind.i64 n] (3 : TypeId)),
                                              Ent.mk (Loc.blk b_1)
                                               (SObj.cells [SV.int IntKind.i64 (↑(atF (List.length xs_1) (Int.toNat n)) : Int)] (3 : TypeId))])) ∧
                                    ((true = true ∧
                                     true = true ∧
                                      true = true ∧
                                       true = true ∧
                                        true = true ∧
                                         true = true ∧
                                          (b8 = b8 ∧ true = true ∧ 1 = 1 ∧ 1 ≤ 1) ∧
                                           K
                                            (Frm.loop J ::
                                             Frm.blk 2 ::
                                              frm [] (bodyOf Try.f12)
                                               [1, 1, 1, 1, 1, 1, 1, 1, 1]
                                               [])
                                            (Sy.mk
                                             [SV.raw (u 0), SV.vec 1 ao' (List.length ss) cap', SV.ptr 2 bl 0,
                                              SV.raw (u 3), SV.bool false, SV.ptr 3 q 0, SV.raw (u 6),
                                              SV.ptr 5 b7 0, SV.ptr 7 b8 0,
                                              SV.int IntKind.i64 (IntKind.wrap IntKind.i64 (i + (1 : Int))), SV.ptr 8 b 0,
                                              SV.ptr 9 b_1 0, SV.raw (u 12), SV.raw (u 13), SV.raw (u 14),
                                              SV.raw (u 15), SV.raw (u 16), SV.raw (u 17), SV.raw (u 18),
                                              SV.raw (u 19), SV.raw (u 20), SV.raw (u 21), SV.raw (u 22),
                                              SV.raw (u 23), SV.raw (u 24), SV.raw (u 25), SV.raw (u 26),
                                              SV.raw (u 27), SV.raw (u 28), SV.raw (u 29), SV.raw (u 30),
                                              SV.raw (u 31), SV.raw (u 32), SV.raw (u 33), SV.raw (u 34),
                                              SV.raw (u 35), SV.raw (u 36), SV.raw (u 37), SV.raw (u 38),
                                              SV.raw (u 39), SV.raw (u 40), SV.raw (u 41), SV.raw (u 42),
                                              SV.raw (u 43), SV.raw (u 44), SV.raw (u 45), SV.raw (u 46),
                                              SV.raw (u 47), SV.int IntKind.i64 i, SV.vec 1 ao' (List.length ss) cap',
                                              SV.int IntKind.i64 (↑(List.length ss) : Int), SV.bool true, SV.int IntKind.i64 i,
                                              SV.int IntKind.i64 (IntKind.wrap IntKind.i64 (i + (1 : Int))),
                                              SV.vec 1 ao' (List.length ss) cap', SV.int IntKind.i64 i,
                                              SV.eptr 1 (Addr.blkD ao') (Addr.offD ao') 1 (Int.toNat i) 0,
                                              SV.int IntKind.u8 (List.getD ss (Int.toNat i) (0 : Int)),
                                              SV.int IntKind.i64 (IntKind.wrap IntKind.i64 (List.getD ss (Int.toNat i) (0 : Int))),
                                              SV.vec 0 ao (List.length bs) cap, SV.int IntKind.i64 (↑(List.length bs) : Int),
                                              SV.int IntKind.i64 (IntKind.wrap IntKind.i64 ((↑(List.length bs) : Int) + (1 : Int))),
                                              SV.int IntKind.i64
                                               (Int.tmod (IntKind.wrap IntKind.i64 (List.getD ss (Int.toNat i) (0 : Int)))
                                                (IntKind.wrap IntKind.i64 ((↑(List.length bs) : Int) + (1 : Int)))),
                                              SV.ptr 3 q 0, SV.func (Fn.func 87) [] [SV.ptr 10 b_2 0],
                                              SV.func (Fn.func 56) []
                                               [SV.ptr 7 b8 0, SV.ptr 9 b_1 0, SV.ptr 5 b7 0,
                                                SV.ptr 8 b 0],
                                              SV.tuple [], SV.bool o_1, SV.bool false, SV.raw (Value.tuple #[]), SV.raw (Value.tuple #[]),
                                              SV.raw (Value.tuple #[]), SV.raw (Value.tuple #[]), SV.raw (Value.tuple #[]), SV.bool false,
                                              SV.bool false, SV.raw (Value.tuple #[]), SV.raw (Value.tuple #[]), SV.raw (Value.tuple #[]),
                                              SV.raw (Value.tuple #[]), SV.raw (Value.tuple #[]), SV.raw (Value.tuple #[]), SV.raw (Value.tuple #[]),
                                              SV.raw (Value.tuple #[]), SV.raw (Value.tuple #[]), SV.raw (Value.tuple #[]), SV.raw (Value.tuple #[]),
                                              SV.bool false, SV.raw (u 88), SV.raw (u 89), SV.raw (u 90),
                                              SV.raw (u 91), SV.raw (u 92), SV.raw (u 93), SV.raw (u 94),
                                              SV.raw (u 95), SV.raw (u 96), SV.raw (u 97), SV.raw (u 98),
                                              SV.raw (u 99), SV.raw (u 100), SV.raw (u 101), SV.raw (u 102),
                                              SV.raw (u 103), SV.raw (u 104), SV.raw (u 105), SV.raw (u 106),
                                              SV.raw (u 107), SV.raw (u 108), SV.raw (u 109), SV.raw (u 110),
                                              SV.raw (u 111), SV.raw (u 112)]
                                             [Ent.mk (Loc.sl ao_1 cap_1) (SObj.roL 1 encI16 bs_1 (0 : Int)),
                                              Ent.mk (Loc.sl ao'_1 cap'_1) (SObj.roL 1 encU8 ss_1 (0 : Int)),
                                              Ent.mk (Loc.blk bl_1) (SObj.cells [SV.vec 0 ao_1 (List.length bs_1) cap_1] (75 : TypeId)),
                                              Ent.mk (Loc.blk q_1)
                                               (SObj.cells
                                                [SV.vec 4 aoq_1 (List.length xs_1) capq_1, SV.func (Fn.func (53 : FuncId)) [] [],
                                                 SV.int IntKind.i64 na_1]
                                                (146 : TypeId)),
                                              Ent.mk (Loc.sl aoq_1 capq_1) (SObj.vecL (149 : TypeId) 2 encItI xs_1 ((0 : Int), (0 : Int))),
                                              Ent.mk (Loc.blk b7) (SObj.cells [SV.vec 6 aof_1 (List.length xs_1) capf_1] (39 : TypeId)),
                                              Ent.mk (Loc.sl aof_1 capf_1)
                                               (SObj.vecL (3 : TypeId) 1 encI1 (firsts xs_1 (List.length xs_1)) (0 : Int)),
                                              Ent.mk (Loc.blk b8) (SObj.cells [SV.bool false] (4 : TypeId)),
                                              Ent.mk (Loc.blk b) (SObj.cells [SV.int IntKind.i64 n] (3 : TypeId)),
                                              Ent.mk (Loc.blk b_1)
                                               (SObj.cells [SV.int IntKind.i64 (↑(atF (List.length xs_1) (Int.toNat n)) : Int)] (3 : TypeId))])) ∧
                                     true = true ∧
                                      true = true ∧
                                       true = true ∧
                                        true = true ∧
                                         true = true ∧
                                          true = true ∧
                                           (b8 = b8 ∧ true = true ∧ 1 = 1 ∧ 1 ≤ 1) ∧
                                            K
                                             (Frm.loop J ::
                                              Frm.blk 2 ::
                                               frm [] (bodyOf Try.f12)
                                                [1, 1, 1, 1, 1, 1, 1, 1, 1]
                                                [])
                                             (Sy.mk
                                              [SV.raw (u 0), SV.vec 1 ao' (List.length ss) cap', SV.ptr 2 bl 0,
                                               SV.raw (u 3), SV.bool false, SV.ptr 3 q 0, SV.raw (u 6),
                                               SV.ptr 5 b7 0, SV.ptr 7 b8 0,
                                               SV.int IntKind.i64 (IntKind.wrap IntKind.i64 (i + (1 : Int))), SV.ptr 8 b 0,
                                               SV.ptr 9 b_1 0, SV.raw (u 12), SV.raw (u 13), SV.raw (u 14),
                                               SV.raw (u 15), SV.raw (u 16), SV.raw (u 17), SV.raw (u 18),
                                               SV.raw (u 19), SV.raw (u 20), SV.raw (u 21), SV.raw (u 22),
                                               SV.raw (u 23), SV.raw (u 24), SV.raw (u 25), SV.raw (u 26),
                                               SV.raw (u 27), SV.raw (u 28), SV.raw (u 29), SV.raw (u 30),
                                               SV.raw (u 31), SV.raw (u 32), SV.raw (u 33), SV.raw (u 34),
                                               SV.raw (u 35), SV.raw (u 36), SV.raw (u 37), SV.raw (u 38),
                                               SV.raw (u 39), SV.raw (u 40), SV.raw (u 41), SV.raw (u 42),
                                               SV.raw (u 43), SV.raw (u 44), SV.raw (u 45), SV.raw (u 46),
                                               SV.raw (u 47), SV.int IntKind.i64 i, SV.vec 1 ao' (List.length ss) cap',
                                               SV.int IntKind.i64 (↑(List.length ss) : Int), SV.bool true, SV.int IntKind.i64 i,
                                               SV.int IntKind.i64 (IntKind.wrap IntKind.i64 (i + (1 : Int))),
                                               SV.vec 1 ao' (List.length ss) cap', SV.int IntKind.i64 i,
                                               SV.eptr 1 (Addr.blkD ao') (Addr.offD ao') 1 (Int.toNat i) 0,
                                               SV.int IntKind.u8 (List.getD ss (Int.toNat i) (0 : Int)),
                                               SV.int IntKind.i64 (IntKind.wrap IntKind.i64 (List.getD ss (Int.toNat i) (0 : Int))),
                                               SV.vec 0 ao (List.length bs) cap, SV.int IntKind.i64 (↑(List.length bs) : Int),
                                               SV.int IntKind.i64 (IntKind.wrap IntKind.i64 ((↑(List.length bs) : Int) + (1 : Int))),
                                               SV.int IntKind.i64
                                                (Int.tmod (IntKind.wrap IntKind.i64 (List.getD ss (Int.toNat i) (0 : Int)))
                                                 (IntKind.wrap IntKind.i64 ((↑(List.length bs) : Int) + (1 : Int)))),
                                               SV.ptr 3 q 0, SV.func (Fn.func 87) [] [SV.ptr 10 b_2 0],
                                               SV.func (Fn.func 56) []
                                                [SV.ptr 7 b8 0, SV.ptr 9 b_1 0, SV.ptr 5 b7 0,
                                                 SV.ptr 8 b 0],
                                               SV.tuple [], SV.bool o_1, SV.bool false, SV.raw (Value.tuple #[]), SV.raw (Value.tuple #[]),
                                               SV.raw (Value.tuple #[]), SV.raw (Value.tuple #[]), SV.raw (Value.tuple #[]), SV.bool false,
                                               SV.bool false, SV.raw (Value.tuple #[]), SV.raw (Value.tuple #[]), SV.raw (Value.tuple #[]),
                                               SV.raw (Value.tuple #[]), SV.raw (Value.tuple #[]), SV.raw (Value.tuple #[]), SV.raw (Value.tuple #[]),
                                               SV.raw (Value.tuple #[]), SV.raw (Value.tuple #[]), SV.raw (Value.tuple #[]), SV.raw (Value.tuple #[]),
                                               SV.bool false, SV.raw (u 88), SV.raw (u 89), SV.raw (u 90),
                                               SV.raw (u 91), SV.raw (u 92), SV.raw (u 93), SV.raw (u 94),
                                               SV.raw (u 95), SV.raw (u 96), SV.raw (u 97), SV.raw (u 98),
                                               SV.raw (u 99), SV.raw (u 100), SV.raw (u 101), SV.raw (u 102),
                                               SV.raw (u 103), SV.raw (u 104), SV.raw (u 105), SV.raw (u 106),
                                               SV.raw (u 107), SV.raw (u 108), SV.raw (u 109), SV.raw (u 110),
                                               SV.raw (u 111), SV.raw (u 112)]
                                              [Ent.mk (Loc.sl ao_1 cap_1) (SObj.roL 1 encI16 bs_1 (0 : Int)),
                                               Ent.mk (Loc.sl ao'_1 cap'_1) (SObj.roL 1 encU8 ss_1 (0 : Int)),
                                               Ent.mk (Loc.blk bl_1) (SObj.cells [SV.vec 0 ao_1 (List.length bs_1) cap_1] (75 : TypeId)),
                                               Ent.mk (Loc.blk q_1)
                                                (SObj.cells
                                                 [SV.vec 4 aoq_1 (List.length xs_1) capq_1, SV.func (Fn.func (53 : FuncId)) [] [],
                                                  SV.int IntKind.i64 na_1]
                                                 (146 : TypeId)),
                                               Ent.mk (Loc.sl aoq_1 capq_1) (SObj.vecL (149 : TypeId) 2 encItI xs_1 ((0 : Int), (0 : Int))),
                                               Ent.mk (Loc.blk b7) (SObj.cells [SV.vec 6 aof_1 (List.length xs_1) capf_1] (39 : TypeId)),
                                               Ent.mk (Loc.sl aof_1 capf_1)
                                                (SObj.vecL (3 : TypeId) 1 encI1 (firsts xs_1 (List.length xs_1)) (0 : Int)),
                                               Ent.mk (Loc.blk b8) (SObj.cells [SV.bool false] (4 : TypeId)),
                                               Ent.mk (Loc.blk b) (SObj.cells [SV.int IntKind.i64 n] (3 : TypeId)),
                                               Ent.mk (Loc.blk b_1)
                                                (SObj.cells [SV.int IntKind.i64 (↑(atF (List.length xs_1) (Int.toNat n)) : Int)] (3 : TypeId))])) ∧
                                     (true = true ∧
                                      true = true ∧
                                       true = true ∧
                                        true = true ∧
                                         true = true ∧
                                          true = true ∧
                                           (b8 = b8 ∧ true = true ∧ 1 = 1 ∧ 1 ≤ 1) ∧
                                            K
                                             (Frm.loop J ::
                                              Frm.blk 2 ::
                                               frm [] (bodyOf Try.f12)
                                                [1, 1, 1, 1, 1, 1, 1, 1, 1]
                                                [])
                                             (Sy.mk
                                              [SV.raw (u 0), SV.vec 1 ao' (List.length ss) cap', SV.ptr 2 bl 0,
                                               SV.raw (u 3), SV.bool false, SV.ptr 3 q 0, SV.raw (u 6),
                                               SV.ptr 5 b7 0, SV.ptr 7 b8 0,
                                               SV.int IntKind.i64 (IntKind.wrap IntKind.i64 (i + (1 : Int))), SV.ptr 8 b 0,
                                               SV.ptr 9 b_1 0, SV.raw (u 12), SV.raw (u 13), SV.raw (u 14),
                                               SV.raw (u 15), SV.raw (u 16), SV.raw (u 17), SV.raw (u 18),
                                               SV.raw (u 19), SV.raw (u 20), SV.raw (u 21), SV.raw (u 22),
                                               SV.raw (u 23), SV.raw (u 24), SV.raw (u 25), SV.raw (u 26),
                                               SV.raw (u 27), SV.raw (u 28), SV.raw (u 29), SV.raw (u 30),
                                               SV.raw (u 31), SV.raw (u 32), SV.raw (u 33), SV.raw (u 34),
                                               SV.raw (u 35), SV.raw (u 36), SV.raw (u 37), SV.raw (u 38),
                                               SV.raw (u 39), SV.raw (u 40), SV.raw (u 41), SV.raw (u 42),
                                               SV.raw (u 43), SV.raw (u 44), SV.raw (u 45), SV.raw (u 46),
                                               SV.raw (u 47), SV.int IntKind.i64 i, SV.vec 1 ao' (List.length ss) cap',
                                               SV.int IntKind.i64 (↑(List.length ss) : Int), SV.bool true, SV.int IntKind.i64 i,
                                               SV.int IntKind.i64 (IntKind.wrap IntKind.i64 (i + (1 : Int))),
                                               SV.vec 1 ao' (List.length ss) cap', SV.int IntKind.i64 i,
                                               SV.eptr 1 (Addr.blkD ao') (Addr.offD ao') 1 (Int.toNat i) 0,
                                               SV.int IntKind.u8 (List.getD ss (Int.toNat i) (0 : Int)),
                                               SV.int IntKind.i64 (IntKind.wrap IntKind.i64 (List.getD ss (Int.toNat i) (0 : Int))),
                                               SV.vec 0 ao (List.length bs) cap, SV.int IntKind.i64 (↑(List.length bs) : Int),
                                               SV.int IntKind.i64 (IntKind.wrap IntKind.i64 ((↑(List.length bs) : Int) + (1 : Int))),
                                               SV.int IntKind.i64
                                                (Int.tmod (IntKind.wrap IntKind.i64 (List.getD ss (Int.toNat i) (0 : Int)))
                                                 (IntKind.wrap IntKind.i64 ((↑(List.length bs) : Int) + (1 : Int)))),
                                               SV.ptr 3 q 0, SV.func (Fn.func 87) [] [SV.ptr 10 b_2 0],
                                               SV.func (Fn.func 56) []
                                                [SV.ptr 7 b8 0, SV.ptr 9 b_1 0, SV.ptr 5 b7 0,
                                                 SV.ptr 8 b 0],
                                               SV.tuple [], SV.bool o_1, SV.bool false, SV.raw (Value.tuple #[]), SV.raw (Value.tuple #[]),
                                               SV.raw (Value.tuple #[]), SV.raw (Value.tuple #[]), SV.raw (Value.tuple #[]), SV.bool false,
                                               SV.bool false, SV.raw (Value.tuple #[]), SV.raw (Value.tuple #[]), SV.raw (Value.tuple #[]),
                                               SV.raw (Value.tuple #[]), SV.raw (Value.tuple #[]), SV.raw (Value.tuple #[]), SV.raw (Value.tuple #[]),
                                               SV.raw (Value.tuple #[]), SV.raw (Value.tuple #[]), SV.raw (Value.tuple #[]), SV.raw (Value.tuple #[]),
                                               SV.bool false, SV.raw (u 88), SV.raw (u 89), SV.raw (u 90),
                                               SV.raw (u 91), SV.raw (u 92), SV.raw (u 93), SV.raw (u 94),
                                               SV.raw (u 95), SV.raw (u 96), SV.raw (u 97), SV.raw (u 98),
                                               SV.raw (u 99), SV.raw (u 100), SV.raw (u 101), SV.raw (u 102),
                                               SV.raw (u 103), SV.raw (u 104), SV.raw (u 105), SV.raw (u 106),
                                               SV.raw (u 107), SV.raw (u 108), SV.raw (u 109), SV.raw (u 110),
                                               SV.raw (u 111), SV.raw (u 112)]
                                              [Ent.mk (Loc.sl ao_1 cap_1) (SObj.roL 1 encI16 bs_1 (0 : Int)),
                                               Ent.mk (Loc.sl ao'_1 cap'_1) (SObj.roL 1 encU8 ss_1 (0 : Int)),
                                               Ent.mk (Loc.blk bl_1) (SObj.cells [SV.vec 0 ao_1 (List.length bs_1) cap_1] (75 : TypeId)),
                                               Ent.mk (Loc.blk q_1)
                                                (SObj.cells
                                                 [SV.vec 4 aoq_1 (List.length xs_1) capq_1, SV.func (Fn.func (53 : FuncId)) [] [],
                                                  SV.int IntKind.i64 na_1]
                                                 (146 : TypeId)),
                                               Ent.mk (Loc.sl aoq_1 capq_1) (SObj.vecL (149 : TypeId) 2 encItI xs_1 ((0 : Int), (0 : Int))),
                                               Ent.mk (Loc.blk b7) (SObj.cells [SV.vec 6 aof_1 (List.length xs_1) capf_1] (39 : TypeId)),
                                               Ent.mk (Loc.sl aof_1 capf_1)
                                                (SObj.vecL (3 : TypeId) 1 encI1 (firsts xs_1 (List.length xs_1)) (0 : Int)),
                                               Ent.mk (Loc.blk b8) (SObj.cells [SV.bool false] (4 : TypeId)),
                                               Ent.mk (Loc.blk b) (SObj.cells [SV.int IntKind.i64 n] (3 : TypeId)),
                                               Ent.mk (Loc.blk b_1)
                                                (SObj.cells [SV.int IntKind.i64 (↑(atF (List.length xs_1) (Int.toNat n)) : Int)] (3 : TypeId))])) ∧
                                      true = true ∧
                                       true = true ∧
                                        true = true ∧
                                         true = true ∧
                                          true = true ∧
                                           true = true ∧
                                            (b8 = b8 ∧ true = true ∧ 1 = 1 ∧ 1 ≤ 1) ∧
                                             K
                                              (Frm.loop J ::
                                               Frm.blk 2 ::
                                                frm [] (bodyOf Try.f12)
                                                 [1, 1, 1, 1, 1, 1, 1, 1, 1]
                                                 [])
                                              (Sy.mk
                                               [SV.raw (u 0), SV.vec 1 ao' (List.length ss) cap', SV.ptr 2 bl 0,
                                                SV.raw (u 3), SV.bool false, SV.ptr 3 q 0, SV.raw (u 6),
                                                SV.ptr 5 b7 0, SV.ptr 7 b8 0,
                                                SV.int IntKind.i64 (IntKind.wrap IntKind.i64 (i + (1 : Int))), SV.ptr 8 b 0,
                                                SV.ptr 9 b_1 0, SV.raw (u 12), SV.raw (u 13), SV.raw (u 14),
                                                SV.raw (u 15), SV.raw (u 16), SV.raw (u 17), SV.raw (u 18),
                                                SV.raw (u 19), SV.raw (u 20), SV.raw (u 21), SV.raw (u 22),
                                                SV.raw (u 23), SV.raw (u 24), SV.raw (u 25), SV.raw (u 26),
                                                SV.raw (u 27), SV.raw (u 28), SV.raw (u 29), SV.raw (u 30),
                                                SV.raw (u 31), SV.raw (u 32), SV.raw (u 33), SV.raw (u 34),
                                                SV.raw (u 35), SV.raw (u 36), SV.raw (u 37), SV.raw (u 38),
                                                SV.raw (u 39), SV.raw (u 40), SV.raw (u 41), SV.raw (u 42),
                                                SV.raw (u 43), SV.raw (u 44), SV.raw (u 45), SV.raw (u 46),
                                                SV.raw (u 47), SV.int IntKind.i64 i, SV.vec 1 ao' (List.length ss) cap',
                                                SV.int IntKind.i64 (↑(List.length ss) : Int), SV.bool true, SV.int IntKind.i64 i,
                                                SV.int IntKind.i64 (IntKind.wrap IntKind.i64 (i + (1 : Int))),
                                                SV.vec 1 ao' (List.length ss) cap', SV.int IntKind.i64 i,
                                                SV.eptr 1 (Addr.blkD ao') (Addr.offD ao') 1 (Int.toNat i) 0,
                                                SV.int IntKind.u8 (List.getD ss (Int.toNat i) (0 : Int)),
                                                SV.int IntKind.i64 (IntKind.wrap IntKind.i64 (List.getD ss (Int.toNat i) (0 : Int))),
                                                SV.vec 0 ao (List.length bs) cap, SV.int IntKind.i64 (↑(List.length bs) : Int),
                                                SV.int IntKind.i64 (IntKind.wrap IntKind.i64 ((↑(List.length bs) : Int) + (1 : Int))),
                                                SV.int IntKind.i64
                                                 (Int.tmod (IntKind.wrap IntKind.i64 (List.getD ss (Int.toNat i) (0 : Int)))
                                                  (IntKind.wrap IntKind.i64 ((↑(List.length bs) : Int) + (1 : Int)))),
                                                SV.ptr 3 q 0, SV.func (Fn.func 87) [] [SV.ptr 10 b_2 0],
                                                SV.func (Fn.func 56) []
                                                 [SV.ptr 7 b8 0, SV.ptr 9 b_1 0, SV.ptr 5 b7 0,
                                                  SV.ptr 8 b 0],
                                                SV.tuple [], SV.bool o_1, SV.bool false, SV.raw (Value.tuple #[]), SV.raw (Value.tuple #[]),
                                                SV.raw (Value.tuple #[]), SV.raw (Value.tuple #[]), SV.raw (Value.tuple #[]), SV.bool false,
                                                SV.bool false, SV.raw (Value.tuple #[]), SV.raw (Value.tuple #[]), SV.raw (Value.tuple #[]),
                                                SV.raw (Value.tuple #[]), SV.raw (Value.tuple #[]), SV.raw (Value.tuple #[]), SV.raw (Value.tuple #[]),
                                                SV.raw (Value.tuple #[]), SV.raw (Value.tuple #[]), SV.raw (Value.tuple #[]), SV.raw (Value.tuple #[]),
                                                SV.bool false, SV.raw (u 88), SV.raw (u 89), SV.raw (u 90),
                                                SV.raw (u 91), SV.raw (u 92), SV.raw (u 93), SV.raw (u 94),
                                                SV.raw (u 95), SV.raw (u 96), SV.raw (u 97), SV.raw (u 98),
                                                SV.raw (u 99), SV.raw (u 100), SV.raw (u 101), SV.raw (u 102),
                                                SV.raw (u 103), SV.raw (u 104), SV.raw (u 105), SV.raw (u 106),
                                                SV.raw (u 107), SV.raw (u 108), SV.raw (u 109), SV.raw (u 110),
                                                SV.raw (u 111), SV.raw (u 112)]
                                               [Ent.mk (Loc.sl ao_1 cap_1) (SObj.roL 1 encI16 bs_1 (0 : Int)),
                                                Ent.mk (Loc.sl ao'_1 cap'_1) (SObj.roL 1 encU8 ss_1 (0 : Int)),
                                                Ent.mk (Loc.blk bl_1) (SObj.cells [SV.vec 0 ao_1 (List.length bs_1) cap_1] (75 : TypeId)),
                                                Ent.mk (Loc.blk q_1)
                                                 (SObj.cells
                                                  [SV.vec 4 aoq_1 (List.length xs_1) capq_1, SV.func (Fn.func (53 : FuncId)) [] [],
                                                   SV.int IntKind.i64 na_1]
                                                  (146 : TypeId)),
                                                Ent.mk (Loc.sl aoq_1 capq_1) (SObj.vecL (149 : TypeId) 2 encItI xs_1 ((0 : Int), (0 : Int))),
                                                Ent.mk (Loc.blk b7) (SObj.cells [SV.vec 6 aof_1 (List.length xs_1) capf_1] (39 : TypeId)),
                                                Ent.mk (Loc.sl aof_1 capf_1)
                                                 (SObj.vecL (3 : TypeId) 1 encI1 (firsts xs_1 (List.length xs_1)) (0 : Int)),
                                                Ent.mk (Loc.blk b8) (SObj.cells [SV.bool false] (4 : TypeId)),
                                                Ent.mk (Loc.blk b) (SObj.cells [SV.int IntKind.i64 n] (3 : TypeId)),
                                                Ent.mk (Loc.blk b_1)
                                                 (SObj.cells [SV.int IntKind.i64 (↑(atF (List.length xs_1) (Int.toNat n)) : Int)] (3 : TypeId))])
| false =>
 K (frm [] (bodyOf Try.f12) [1, 1, 1, 1, 1, 1, 1, 1, 1, 0, 1, 0] [])
  (Sy.mk
   [SV.raw (u 0), SV.vec 1 ao' (List.length ss) cap', SV.ptr 2 bl 0, SV.raw (u 3), SV.bool false, SV.ptr 3 q 0, SV.raw (u 6),
    SV.ptr 5 b7 0, SV.ptr 7 b8 0, SV.int IntKind.i64 i, SV.raw (u 10), SV.raw (u 11), SV.int IntKind.i64 (0 : Int), SV.raw (u 13),
    SV.raw (u 14), SV.raw (u 15), SV.raw (u 16), SV.raw (u 17), SV.raw (u 18), SV.raw (u 19), SV.raw (u 20), SV.raw (u 21),
    SV.raw (u 22), SV.raw (u 23), SV.raw (u 24), SV.raw (u 25), SV.raw (u 26), SV.raw (u 27), SV.raw (u 28), SV.raw (u 29),
    SV.raw (u 30), SV.raw (u 31), SV.raw (u 32), SV.raw (u 33), SV.raw (u 34), SV.raw (u 35), SV.raw (u 36), SV.raw (u 37),
    SV.raw (u 38), SV.raw (u 39), SV.raw (u 40), SV.raw (u 41), SV.raw (u 42), SV.raw (u 43), SV.raw (u 44), SV.raw (u 45),
    SV.raw (u 46), SV.raw (u 47), SV.int IntKind.i64 i, SV.vec 1 ao' (List.length ss) cap', SV.int IntKind.i64 (↑(List.length ss) : Int), SV.bool false,
    SV.raw (u 52), SV.raw (u 53), SV.raw (u 54), SV.raw (u 55), SV.raw (u 56), SV.raw (u 57), SV.raw (u 58), SV.raw (u 59),
    SV.raw (u 60), SV.raw (u 61), SV.raw (u 62), SV.raw (u 63), SV.raw (u 64), SV.raw (u 65), SV.raw (u 66), SV.raw (u 67),
    SV.raw (u 68), SV.raw (u 69), SV.raw (u 70), SV.raw (u 71), SV.raw (u 72), SV.raw (u 73), SV.raw (u 74), SV.raw (u 75),
    SV.raw (u 76), SV.raw (u 77), SV.raw (u 78), SV.raw (u 79), SV.raw (u 80), SV.raw (u 81), SV.raw (u 82), SV.raw (u 83),
    SV.raw (u 84), SV.raw (u 85), SV.raw (u 86), SV.raw (u 87), SV.raw (u 88), SV.raw (u 89), SV.raw (u 90), SV.raw (u 91),
    SV.raw (u 92), SV.raw (u 93), SV.raw (u 94), SV.raw (u 95), SV.raw (u 96), SV.raw (u 97), SV.raw (u 98), SV.raw (u 99),
    SV.raw (u 100), SV.raw (u 101), SV.raw (u 102), SV.raw (u 103), SV.raw (u 104), SV.raw (u 105), SV.raw (u 106), SV.raw (u 107),
    SV.raw (u 108), SV.raw (u 109), SV.raw (u 110), SV.raw (u 111), SV.raw (u 112)]
   [Ent.mk (Loc.sl ao cap) (SObj.roL 1 encI16 bs (0 : Int)), Ent.mk (Loc.sl ao' cap') (SObj.roL 1 encU8 ss (0 : Int)),
    Ent.mk (Loc.blk bl) (SObj.cells [SV.vec 0 ao (List.length bs) cap] (75 : TypeId)),
    Ent.mk (Loc.blk q) (SObj.cells [SV.vec 4 aoq (List.length xs) capq, SV.func (Fn.func (53 : FuncId)) [] [], SV.int IntKind.i64 na] (146 : TypeId)),
    Ent.mk (Loc.sl aoq capq) (SObj.vecL (149 : TypeId) 2 encItI xs ((0 : Int), (0 : Int))), Ent.mk (Loc.blk b7) (SObj.cells [SV.vec 6 aof (List.length xs) capf] (39 : TypeId)),
    Ent.mk (Loc.sl aof capf) (SObj.vecL (3 : TypeId) 1 encI1 (firsts xs (List.length xs)) (0 : Int)), Ent.mk (Loc.blk b8) (SObj.cells [SV.bool o] (4 : TypeId))])) := by kernel_rfl

end Go.Proofs.Ytjnkfgigpapeaaa
