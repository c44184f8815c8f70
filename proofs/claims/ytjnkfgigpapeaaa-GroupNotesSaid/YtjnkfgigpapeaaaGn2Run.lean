import Derived.Test.YtjnkfgigpapeaaaGnC
import Derived.Test.YtjnkfgigpapeaaaTab
namespace Go.Proofs.Ytjnkfgigpapeaaa
set_option linter.unusedVariables false
open Go Go.RowKit
set_option maxHeartbeats 0
set_option maxRecDepth 100000
set_option maxRecDepth 100000

theorem gn_start (K : List Frm → Sy → Prop) (N : List Ent → SV → Prop) (ao : Option Addr) (cap : Nat) (bs : List Int) (again removed : Int) : (run Try.prog gTk false [] K (retP Try.prog Try.f11.results.toList N) 400 [.code (bodyOf Try.f11)] ⟨padTo 147 [.vec 0 ao bs.length cap, .int .u8 again, .int .u8 removed], [⟨.sl ao cap, .roL 1 encU8 bs 0⟩]⟩) = (
true = true ∧
 match decide ((↑(List.length bs) : Int) > (8 : Int)) with
 | true => N [Ent.mk (Loc.sl ao cap) (SObj.roL 1 encU8 bs (0 : Int))] (SV.bool true)
 | false =>
  true = true ∧
   ∀ (b bg bo b_1 : Nat),
    K (frm [] (bodyOf Try.f11) [1, 1, 1, 1, 1, 1, 1, 0, 1, 0] [])
     (Sy.mk
      [SV.vec 0 ao (List.length bs) cap, SV.int IntKind.u8 again, SV.int IntKind.u8 removed, SV.raw (Value.tuple #[]), SV.raw (Value.tuple #[]), SV.raw (Value.tuple #[]), SV.bool false,
       SV.ptr 1 b 0, SV.str (ByteArray.mk #[(97 : UInt8), (98 : UInt8), (99 : UInt8), (100 : UInt8), (101 : UInt8), (102 : UInt8), (103 : UInt8), (104 : UInt8)]),
       SV.raw (Value.slice (@none Addr) 0 0), SV.ptr 2 b_1 0, SV.int IntKind.i64 (0 : Int), SV.raw (Value.tuple #[]), SV.raw (Value.tuple #[]),
       SV.raw (Value.tuple #[]), SV.raw (Value.tuple #[]), SV.raw (Value.tuple #[]), SV.raw (Value.tuple #[]), SV.raw (Value.tuple #[]), SV.bool true, SV.bool false,
       SV.vec 0 ao (List.length bs) cap, SV.int IntKind.i64 (↑(List.length bs) : Int), SV.bool false, SV.ptr 1 b 0, SV.raw (Value.tuple #[]), SV.raw (Value.tuple #[]),
       SV.raw (Value.tuple #[]), SV.raw (Value.tuple #[]), SV.raw (Value.tuple #[]), SV.raw (Value.tuple #[]), SV.raw (Value.tuple #[]), SV.raw (Value.tuple #[]), SV.raw (Value.tuple #[]),
       SV.raw (Value.tuple #[]), SV.raw (Value.tuple #[]), SV.raw (Value.tuple #[]), SV.raw (Value.tuple #[]), SV.raw (Value.tuple #[]), SV.raw (Value.tuple #[]), SV.raw (Value.tuple #[]),
       SV.raw (Value.tuple #[]), SV.raw (Value.tuple #[]), SV.raw (Value.tuple #[]), SV.raw (Value.tuple #[]), SV.raw (Value.tuple #[]), SV.raw (Value.tuple #[]), SV.raw (Value.tuple #[]),
       SV.raw (Value.tuple #[]), SV.raw (Value.tuple #[]), SV.raw (Value.tuple #[]), SV.raw (Value.tuple #[]), SV.raw (Value.tuple #[]), SV.raw (Value.tuple #[]), SV.raw (Value.tuple #[]),
       SV.raw (Value.tuple #[]), SV.raw (Value.tuple #[]), SV.raw (Value.tuple #[]), SV.raw (Value.tuple #[]), SV.raw (Value.tuple #[]), SV.raw (Value.tuple #[]), SV.raw (Value.tuple #[]),
       SV.raw (Value.tuple #[]), SV.raw (Value.tuple #[]), SV.raw (Value.tuple #[]), SV.raw (Value.tuple #[]), SV.raw (Value.tuple #[]), SV.raw (Value.tuple #[]), SV.raw (Value.tuple #[]),
       SV.raw (Value.tuple #[]), SV.raw (Value.tuple #[]), SV.raw (Value.tuple #[]), SV.raw (Value.tuple #[]), SV.raw (Value.tuple #[]), SV.raw (Value.tuple #[]), SV.raw (Value.tuple #[]),
       SV.raw (Value.tuple #[]), SV.raw (Value.tuple #[]), SV.raw (Value.tuple #[]), SV.raw (Value.tuple #[]), SV.raw (Value.tuple #[]), SV.raw (Value.tuple #[]), SV.raw (Value.tuple #[]),
       SV.raw (Value.tuple #[]), SV.raw (Value.tuple #[]), SV.raw (Value.tuple #[]), SV.raw (Value.tuple #[]), SV.raw (Value.tuple #[]), SV.raw (Value.tuple #[]), SV.raw (Value.tuple #[]),
       SV.raw (Value.tuple #[]), SV.raw (Value.tuple #[]), SV.raw (Value.tuple #[]), SV.raw (Value.tuple #[]), SV.raw (Value.tuple #[]), SV.raw (Value.tuple #[]), SV.raw (Value.tuple #[]),
       SV.raw (Value.tuple #[]), SV.raw (Value.tuple #[]), SV.raw (Value.tuple #[]), SV.raw (Value.tuple #[]), SV.raw (Value.tuple #[]), SV.raw (Value.tuple #[]), SV.raw (Value.tuple #[]),
       SV.raw (Value.tuple #[]), SV.raw (Value.tuple #[]), SV.raw (Value.tuple #[]), SV.raw (Value.tuple #[]), SV.raw (Value.tuple #[]), SV.raw (Value.tuple #[]), SV.raw (Value.tuple #[]),
       SV.raw (Value.tuple #[]), SV.raw (Value.tuple #[]), SV.raw (Value.tuple #[]), SV.raw (Value.tuple #[]), SV.raw (Value.tuple #[]), SV.raw (Value.tuple #[]), SV.raw (Value.tuple #[]),
       SV.raw (Value.tuple #[]), SV.raw (Value.tuple #[]), SV.raw (Value.tuple #[]), SV.raw (Value.tuple #[]), SV.raw (Value.tuple #[]), SV.raw (Value.tuple #[]), SV.raw (Value.tuple #[]),
       SV.raw (Value.tuple #[]), SV.raw (Value.tuple #[]), SV.raw (Value.tuple #[]), SV.raw (Value.tuple #[]), SV.raw (Value.tuple #[]), SV.raw (Value.tuple #[]), SV.raw (Value.tuple #[]),
       SV.raw (Value.tuple #[]), SV.raw (Value.tuple #[]), SV.raw (Value.tuple #[]), SV.raw (Value.tuple #[]), SV.raw (Value.tuple #[]), SV.raw (Value.tuple #[]), SV.raw (Value.tuple #[]),
       SV.raw (Value.tuple #[]), SV.raw (Value.tuple #[]), SV.raw (Value.tuple #[]), SV.raw (Value.tuple #[]), SV.raw (Value.tuple #[]), SV.raw (Value.tuple #[]), SV.raw (Value.tuple #[]),
       SV.raw (Value.tuple #[])]
      [Ent.mk (Loc.sl ao cap) (SObj.roL 1 encU8 bs (0 : Int)), pkA b grpE (Grp.mk bg bo (@none Addr) 0 [] [] []),
       Ent.mk (Loc.blk b_1) (SObj.cells [SV.bool false, SV.bool false, SV.bool false, SV.bool false, SV.bool false, SV.bool false, SV.bool false, SV.bool false] 86)])) := by kernel_rfl


theorem gn_l1 (K : List Frm → Sy → Prop) (N : List Ent → SV → Prop) (J : Act → World → Prop) (ao : Option Addr) (cap : Nat) (bs : List Int) (again removed : Int) (b d : Nat) (s : Grp) (i : Nat) (u : Nat → Value) : (run Try.prog gTk false [] K (retP Try.prog Try.f11.results.toList N) 900 (frm [J] (bodyOf Try.f11) [1, 1, 1, 1, 1, 1, 1, 0, 1, 0, 0] []) ⟨mkT u 147 0 [(0, .vec 0 ao bs.length cap), (1, .int .u8 again), (2, .int .u8 removed), (7, .ptr 1 b 0), (8, .str names8), (9, .raw (.slice none 0 0)), (10, .ptr 2 d 0), (11, .int .i64 (i : Int))], [⟨.sl ao cap, .roL 1 encU8 bs 0⟩, pkA b grpE s, ⟨.blk d, .cells [.bool false, .bool false, .bool false, .bool false, .bool false, .bool false, .bool false, .bool false] 86⟩]⟩) = (
match decide ((↑i : Int) < (8 : Int)) with
| true =>
 ((0 : Int) ≤ (↑i : Int) ∧ (↑i : Int) ≤ IntKind.wrap IntKind.i64 ((↑i : Int) + (1 : Int)) ∧ IntKind.wrap IntKind.i64 ((↑i : Int) + (1 : Int)) ≤ (↑8 : Int)) ∧
  true = true ∧
   b = b ∧
    ∃ (h : Grp = Grp),
     AdtIs (fun (s : Grp) (b : Nat) ↦ packs (grpE s b)) grpE ∧
      ∀ (nb : Nat),
       match (gMake s (ByteArray.extract names8 (Int.toNat (↑i : Int)) (Int.toNat (IntKind.wrap IntKind.i64 ((↑i : Int) + (1 : Int))))) nb).2 != (0 : Int) with
       | true =>
        N
         [Ent.mk (Loc.sl ao cap) (SObj.roL 1 encU8 bs (0 : Int)),
          pkA b grpE (gMake s (ByteArray.extract names8 (Int.toNat (↑i : Int)) (Int.toNat (IntKind.wrap IntKind.i64 ((↑i : Int) + (1 : Int))))) nb).1,
          Ent.mk (Loc.blk d) (SObj.cells [SV.bool false, SV.bool false, SV.bool false, SV.bool false, SV.bool false, SV.bool false, SV.bool false, SV.bool false] (86 : TypeId))]
         (SV.bool false)
       | false =>
        ((0 : Int) ≤ (↑i : Int) ∧ (↑i : Int) ≤ IntKind.wrap IntKind.i64 ((↑i : Int) + (1 : Int)) ∧ IntKind.wrap IntKind.i64 ((↑i : Int) + (1 : Int)) ≤ (↑8 : Int)) ∧
         true = true ∧
          b = b ∧
           ∃ (h : Grp = Grp),
            AdtIs (fun (s : Grp) (b : Nat) ↦ packs (grpE s b)) grpE ∧
             (gOk (gMake s (ByteArray.extract names8 (Int.toNat (↑i : Int)) (Int.toNat (IntKind.wrap IntKind.i64 ((↑i : Int) + (1 : Int))))) nb).1
              (IntKind.wrap IntKind.i64 ((↑i : Int) + (2 : Int))) ∧
              keysOk (gMake s (ByteArray.extract names8 (Int.toNat (↑i : Int)) (Int.toNat (IntKind.wrap IntKind.i64 ((↑i : Int) + (1 : Int))))) nb).1.gs) ∧
              ∀ (ao_1 : Option Addr) (cap_1 : Nat),
               match
                (gPut (gMake s (ByteArray.extract names8 (Int.toNat (↑i : Int)) (Int.toNat (IntKind.wrap IntKind.i64 ((↑i : Int) + (1 : Int))))) nb).1
                 (IntKind.wrap IntKind.i64 ((↑i : Int) + (2 : Int)))
                 (ByteArray.extract names8 (Int.toNat (↑i : Int)) (Int.toNat (IntKind.wrap IntKind.i64 ((↑i : Int) + (1 : Int))))) ao_1 cap_1).2 !=
                 (0 : Int) with
               | true =>
                N
                 [Ent.mk (Loc.sl ao cap) (SObj.roL 1 encU8 bs (0 : Int)),
                  pkA b grpE
                   (gPut (gMake s (ByteArray.extract names8 (Int.toNat (↑i : Int)) (Int.toNat (IntKind.wrap IntKind.i64 ((↑i : Int) + (1 : Int))))) nb).1
                    (IntKind.wrap IntKind.i64 ((↑i : Int) + (2 : Int)))
                    (ByteArray.extract names8 (Int.toNat (↑i : Int)) (Int.toNat (IntKind.wrap IntKind.i64 ((↑i : Int) + (1 : Int))))) ao_1 cap_1).1,
                  Ent.mk (Loc.blk d)
                   (SObj.cells [SV.bool false, SV.bool false, SV.bool false, SV.bool false, SV.bool false, SV.bool false, SV.bool false, SV.bool false] (86 : TypeId))]
                 (SV.bool false)
               | false =>
                K (Frm.loop J :: Frm.blk 0 :: frm [] (bodyOf Try.f11) [1, 1, 1, 1, 1, 1, 1, 1] [])
                 (Sy.mk
                  [SV.vec 0 ao (List.length bs) cap, SV.int IntKind.u8 again, SV.int IntKind.u8 removed, SV.raw (u 3), SV.raw (u 4), SV.raw (u 5),
                   SV.raw (u 6), SV.ptr 1 b 0, SV.str names8, SV.raw (Value.slice (@none Addr) 0 0), SV.ptr 2 d 0,
                   SV.int IntKind.i64 (IntKind.wrap IntKind.i64 ((↑i : Int) + (1 : Int))), SV.raw (u 12), SV.raw (u 13), SV.raw (u 14),
                   SV.raw (u 15), SV.raw (u 16), SV.raw (u 17), SV.raw (u 18), SV.raw (u 19), SV.raw (u 20), SV.raw (u 21),
                   SV.raw (u 22), SV.raw (u 23), SV.raw (u 24), SV.int IntKind.i64 (↑i : Int), SV.bool true, SV.int IntKind.i64 (↑i : Int),
                   SV.int IntKind.i64 (IntKind.wrap IntKind.i64 ((↑i : Int) + (1 : Int))), SV.ptr 1 b 0, SV.str names8, SV.int IntKind.i64 (↑i : Int),
                   SV.int IntKind.i64 (↑i : Int), SV.int IntKind.i64 (IntKind.wrap IntKind.i64 ((↑i : Int) + (1 : Int))),
                   SV.str (ByteArray.extract names8 (Int.toNat (↑i : Int)) (Int.toNat (IntKind.wrap IntKind.i64 ((↑i : Int) + (1 : Int))))),
                   SV.int IntKind.i64 (gMake s (ByteArray.extract names8 (Int.toNat (↑i : Int)) (Int.toNat (IntKind.wrap IntKind.i64 ((↑i : Int) + (1 : Int))))) nb).2,
                   SV.bool ((gMake s (ByteArray.extract names8 (Int.toNat (↑i : Int)) (Int.toNat (IntKind.wrap IntKind.i64 ((↑i : Int) + (1 : Int))))) nb).2 != (0 : Int)),
                   SV.bool false, SV.ptr 1 b 0, SV.int IntKind.i64 (↑i : Int), SV.int IntKind.i64 (IntKind.wrap IntKind.i64 ((↑i : Int) + (2 : Int))), SV.str names8,
                   SV.int IntKind.i64 (↑i : Int), SV.int IntKind.i64 (↑i : Int), SV.int IntKind.i64 (IntKind.wrap IntKind.i64 ((↑i : Int) + (1 : Int))),
                   SV.str (ByteArray.extract names8 (Int.toNat (↑i : Int)) (Int.toNat (IntKind.wrap IntKind.i64 ((↑i : Int) + (1 : Int))))),
                   SV.int IntKind.i64
                    (gPut (gMake s (ByteArray.extract names8 (Int.toNat (↑i : Int)) (Int.toNat (IntKind.wrap IntKind.i64 ((↑i : Int) + (1 : Int))))) nb).1
                     (IntKind.wrap IntKind.i64 ((↑i : Int) + (2 : Int)))
                     (ByteArray.extract names8 (Int.toNat (↑i : Int)) (Int.toNat (IntKind.wrap IntKind.i64 ((↑i : Int) + (1 : Int))))) ao_1 cap_1).2,
                   SV.bool
                    ((gPut (gMake s (ByteArray.extract names8 (Int.toNat (↑i : Int)) (Int.toNat (IntKind.wrap IntKind.i64 ((↑i : Int) + (1 : Int))))) nb).1
                     (IntKind.wrap IntKind.i64 ((↑i : Int) + (2 : Int)))
                     (ByteArray.extract names8 (Int.toNat (↑i : Int)) (Int.toNat (IntKind.wrap IntKind.i64 ((↑i : Int) + (1 : Int))))) ao_1 cap_1).2 !=
                     (0 : Int)),
                   SV.bool false, SV.raw (u 49), SV.raw (u 50), SV.raw (u 51), SV.raw (u 52), SV.raw (u 53), SV.raw (u 54),
                   SV.raw (u 55), SV.raw (u 56), SV.raw (u 57), SV.raw (u 58), SV.raw (u 59), SV.raw (u 60), SV.raw (u 61),
                   SV.raw (u 62), SV.raw (u 63), SV.raw (u 64), SV.raw (u 65), SV.raw (u 66), SV.raw (u 67), SV.raw (u 68),
                   SV.raw (u 69), SV.raw (u 70), SV.raw (u 71), SV.raw (u 72), SV.raw (u 73), SV.raw (u 74), SV.raw (u 75),
                   SV.raw (u 76), SV.raw (u 77), SV.raw (u 78), SV.raw (u 79), SV.raw (u 80), SV.raw (u 81), SV.raw (u 82),
                   SV.raw (u 83), SV.raw (u 84), SV.raw (u 85), SV.raw (u 86), SV.raw (u 87), SV.raw (u 88), SV.raw (u 89),
                   SV.raw (u 90), SV.raw (u 91), SV.raw (u 92), SV.raw (u 93), SV.raw (u 94), SV.raw (u 95), SV.raw (u 96),
                   SV.raw (u 97), SV.raw (u 98), SV.raw (u 99), SV.raw (u 100), SV.raw (u 101), SV.raw (u 102),
                   SV.raw (u 103), SV.raw (u 104), SV.raw (u 105), SV.raw (u 106), SV.raw (u 107), SV.raw (u 108),
                   SV.raw (u 109), SV.raw (u 110), SV.raw (u 111), SV.raw (u 112), SV.raw (u 113), SV.raw (u 114),
                   SV.raw (u 115), SV.raw (u 116), SV.raw (u 117), SV.raw (u 118), SV.raw (u 119), SV.raw (u 120),
                   SV.raw (u 121), SV.raw (u 122), SV.raw (u 123), SV.raw (u 124), SV.raw (u 125), SV.raw (u 126),
                   SV.raw (u 127), SV.raw (u 128), SV.raw (u 129), SV.raw (u 130), SV.raw (u 131), SV.raw (u 132),
                   SV.raw (u 133), SV.raw (u 134), SV.raw (u 135), SV.raw (u 136), SV.raw (u 137), SV.raw (u 138),
                   SV.raw (u 139), SV.raw (u 140), SV.raw (u 141), SV.raw (u 142), SV.raw (u 143), SV.raw (u 144),
                   SV.raw (u 145), SV.raw (u 146)]
                  [Ent.mk (Loc.sl ao cap) (SObj.roL 1 encU8 bs (0 : Int)),
                   pkA b grpE
                    (gPut (gMake s (ByteArray.extract names8 (Int.toNat (↑i : Int)) (Int.toNat (IntKind.wrap IntKind.i64 ((↑i : Int) + (1 : Int))))) nb).1
                     (IntKind.wrap IntKind.i64 ((↑i : Int) + (2 : Int)))
                     (ByteArray.extract names8 (Int.toNat (↑i : Int)) (Int.toNat (IntKind.wrap IntKind.i64 ((↑i : Int) + (1 : Int))))) ao_1 cap_1).1,
                   Ent.mk (Loc.blk d)
                    (SObj.cells [SV.bool false, SV.bool false, SV.bool false, SV.bool false, SV.bool false, SV.bool false, SV.bool false, SV.bool false] (86 : TypeId))])
| false =>
 K (frm [] (bodyOf Try.f11) [1, 1, 1, 1, 1, 1, 1, 1, 0, 1, 0] [])
  (Sy.mk
   [SV.vec 0 ao (List.length bs) cap, SV.int IntKind.u8 again, SV.int IntKind.u8 removed, SV.raw (u 3), SV.raw (u 4), SV.raw (u 5), SV.raw (u 6),
    SV.ptr 1 b 0, SV.str names8, SV.raw (Value.slice (@none Addr) 0 0), SV.ptr 2 d 0, SV.int IntKind.i64 (↑i : Int), SV.int IntKind.i64 (0 : Int),
    SV.raw (u 13), SV.raw (u 14), SV.raw (u 15), SV.raw (u 16), SV.raw (u 17), SV.raw (u 18), SV.raw (u 19), SV.raw (u 20),
    SV.raw (u 21), SV.raw (u 22), SV.raw (u 23), SV.raw (u 24), SV.int IntKind.i64 (↑i : Int), SV.bool false, SV.raw (u 27), SV.raw (u 28),
    SV.raw (u 29), SV.raw (u 30), SV.raw (u 31), SV.raw (u 32), SV.raw (u 33), SV.raw (u 34), SV.raw (u 35), SV.raw (u 36),
    SV.raw (u 37), SV.raw (u 38), SV.raw (u 39), SV.raw (u 40), SV.raw (u 41), SV.raw (u 42), SV.raw (u 43), SV.raw (u 44),
    SV.raw (u 45), SV.raw (u 46), SV.raw (u 47), SV.raw (u 48), SV.raw (u 49), SV.raw (u 50), SV.raw (u 51), SV.raw (u 52),
    SV.raw (u 53), SV.raw (u 54), SV.raw (u 55), SV.raw (u 56), SV.raw (u 57), SV.raw (u 58), SV.raw (u 59), SV.raw (u 60),
    SV.raw (u 61), SV.raw (u 62), SV.raw (u 63), SV.raw (u 64), SV.raw (u 65), SV.raw (u 66), SV.raw (u 67), SV.raw (u 68),
    SV.raw (u 69), SV.raw (u 70), SV.raw (u 71), SV.raw (u 72), SV.raw (u 73), SV.raw (u 74), SV.raw (u 75), SV.raw (u 76),
    SV.raw (u 77), SV.raw (u 78), SV.raw (u 79), SV.raw (u 80), SV.raw (u 81), SV.raw (u 82), SV.raw (u 83), SV.raw (u 84),
    SV.raw (u 85), SV.raw (u 86), SV.raw (u 87), SV.raw (u 88), SV.raw (u 89), SV.raw (u 90), SV.raw (u 91), SV.raw (u 92),
    SV.raw (u 93), SV.raw (u 94), SV.raw (u 95), SV.raw (u 96), SV.raw (u 97), SV.raw (u 98), SV.raw (u 99), SV.raw (u 100),
    SV.raw (u 101), SV.raw (u 102), SV.raw (u 103), SV.raw (u 104), SV.raw (u 105), SV.raw (u 106), SV.raw (u 107), SV.raw (u 108),
    SV.raw (u 109), SV.raw (u 110), SV.raw (u 111), SV.raw (u 112), SV.raw (u 113), SV.raw (u 114), SV.raw (u 115), SV.raw (u 116),
    SV.raw (u 117), SV.raw (u 118), SV.raw (u 119), SV.raw (u 120), SV.raw (u 121), SV.raw (u 122), SV.raw (u 123), SV.raw (u 124),
    SV.raw (u 125), SV.raw (u 126), SV.raw (u 127), SV.raw (u 128), SV.raw (u 129), SV.raw (u 130), SV.raw (u 131), SV.raw (u 132),
    SV.raw (u 133), SV.raw (u 134), SV.raw (u 135), SV.raw (u 136), SV.raw (u 137), SV.raw (u 138), SV.raw (u 139), SV.raw (u 140),
    SV.raw (u 141), SV.raw (u 142), SV.raw (u 143), SV.raw (u 144), SV.raw (u 145), SV.raw (u 146)]
   [Ent.mk (Loc.sl ao cap) (SObj.roL 1 encU8 bs (0 : Int)), pkA b grpE s,
    Ent.mk (Loc.blk d) (SObj.cells [SV.bool false, SV.bool false, SV.bool false, SV.bool false, SV.bool false, SV.bool false, SV.bool false, SV.bool false] (86 : TypeId))])) := by kernel_rfl


theorem gn_l2 (K : List Frm → Sy → Prop) (N : List Ent → SV → Prop) (J : Act → World → Prop) (ao : Option Addr) (cap : Nat) (bs : List Int) (again removed : Int) (b d : Nat) (s : Grp) (done : List Bool) (an : Option Addr) (cn : Nat) (notes : List ByteArray) (i : Nat) (u : Nat → Value) : (run Try.prog gTk false [18] K (retP Try.prog Try.f11.results.toList N) 1500 (frm [J] (bodyOf Try.f11) [1, 1, 1, 1, 1, 1, 1, 1, 0, 1, 0, 0] []) ⟨mkT u 147 0 [(0, .vec 0 ao bs.length cap), (1, .int .u8 again), (2, .int .u8 removed), (7, .ptr 1 b 0), (8, .str names8), (9, .vec 3 an notes.length cn), (10, .ptr 2 d 0), (12, .int .i64 (i : Int))], [⟨.sl ao cap, .roL 1 encU8 bs 0⟩, pkA b grpE s, ⟨.sl (some ⟨d, 0, none⟩) 8, .vecL 86 1 encB done false⟩, ⟨.sl an cn, .vecL 9 1 encS notes ByteArray.empty⟩]⟩) = (
match decide ((↑i : Int) < (↑(List.length bs) : Int)) with
| true =>
 (ao = ao ∧ cap = cap ∧ List.length bs = List.length bs ∧ (0 : Int) ≤ (↑i : Int) ∧ (↑i : Int) < (↑(List.length bs) : Int)) ∧
  (Addr.blkD ao = Addr.blkD ao ∧ Addr.offD ao = Addr.offD ao ∧ 1 = 1 ∧ Int.toNat (↑i : Int) < List.length bs) ∧
   (8 : Int) ≠ (0 : Int) ∧
    K (frmR [J] (bodyOf Try.f11) 18)
     (Sy.mk
      [SV.vec 0 ao (List.length bs) cap, SV.int IntKind.u8 again, SV.int IntKind.u8 removed, SV.raw (u 3), SV.raw (u 4), SV.raw (u 5), SV.raw (u 6),
       SV.ptr 1 b 0, SV.str names8, SV.vec 3 an (List.length notes) cn, SV.ptr 2 d 0, SV.raw (u 11), SV.int IntKind.i64 (↑i : Int),
       SV.int IntKind.i64 (IntKind.wrap IntKind.i64 (Int.tmod (List.getD bs (Int.toNat (↑i : Int)) (0 : Int)) (8 : Int))), SV.raw (u 14), SV.raw (u 15), SV.raw (u 16),
       SV.raw (u 17), SV.raw (u 18), SV.raw (u 19), SV.raw (u 20), SV.raw (u 21), SV.raw (u 22), SV.raw (u 23), SV.raw (u 24),
       SV.raw (u 25), SV.raw (u 26), SV.raw (u 27), SV.raw (u 28), SV.raw (u 29), SV.raw (u 30), SV.raw (u 31), SV.raw (u 32),
       SV.raw (u 33), SV.raw (u 34), SV.raw (u 35), SV.raw (u 36), SV.raw (u 37), SV.raw (u 38), SV.raw (u 39), SV.raw (u 40),
       SV.raw (u 41), SV.raw (u 42), SV.raw (u 43), SV.raw (u 44), SV.raw (u 45), SV.raw (u 46), SV.raw (u 47), SV.raw (u 48),
       SV.int IntKind.i64 (↑i : Int), SV.vec 0 ao (List.length bs) cap, SV.int IntKind.i64 (↑(List.length bs) : Int), SV.bool true, SV.raw (u 53), SV.raw (u 54),
       SV.vec 0 ao (List.length bs) cap, SV.int IntKind.i64 (↑i : Int), SV.eptr 0 (Addr.blkD ao) (Addr.offD ao) 1 (Int.toNat (↑i : Int)) 0,
       SV.int IntKind.u8 (List.getD bs (Int.toNat (↑i : Int)) (0 : Int)), SV.int IntKind.u8 (Int.tmod (List.getD bs (Int.toNat (↑i : Int)) (0 : Int)) (8 : Int)),
       SV.int IntKind.i64 (IntKind.wrap IntKind.i64 (Int.tmod (List.getD bs (Int.toNat (↑i : Int)) (0 : Int)) (8 : Int))), SV.raw (u 61), SV.raw (u 62), SV.raw (u 63),
       SV.raw (u 64), SV.raw (u 65), SV.raw (u 66), SV.raw (u 67), SV.raw (u 68), SV.raw (u 69), SV.raw (u 70), SV.raw (u 71),
       SV.raw (u 72), SV.raw (u 73), SV.raw (u 74), SV.raw (u 75), SV.raw (u 76), SV.raw (u 77), SV.raw (u 78), SV.raw (u 79),
       SV.raw (u 80), SV.raw (u 81), SV.raw (u 82), SV.raw (u 83), SV.raw (u 84), SV.raw (u 85), SV.raw (u 86), SV.raw (u 87),
       SV.raw (u 88), SV.raw (u 89), SV.raw (u 90), SV.raw (u 91), SV.raw (u 92), SV.raw (u 93), SV.raw (u 94), SV.raw (u 95),
       SV.raw (u 96), SV.raw (u 97), SV.raw (u 98), SV.raw (u 99), SV.raw (u 100), SV.raw (u 101), SV.raw (u 102),
       SV.raw (u 103), SV.raw (u 104), SV.raw (u 105), SV.raw (u 106), SV.raw (u 107), SV.raw (u 108), SV.raw (u 109),
       SV.raw (u 110), SV.raw (u 111), SV.raw (u 112), SV.raw (u 113), SV.raw (u 114), SV.raw (u 115), SV.raw (u 116),
       SV.raw (u 117), SV.raw (u 118), SV.raw (u 119), SV.raw (u 120), SV.raw (u 121), SV.raw (u 122), SV.raw (u 123),
       SV.raw (u 124), SV.raw (u 125), SV.raw (u 126), SV.raw (u 127), SV.raw (u 128), SV.raw (u 129), SV.raw (u 130),
       SV.raw (u 131), SV.raw (u 132), SV.raw (u 133), SV.raw (u 134), SV.raw (u 135), SV.raw (u 136), SV.raw (u 137),
       SV.raw (u 138), SV.raw (u 139), SV.raw (u 140), SV.raw (u 141), SV.raw (u 142), SV.raw (u 143), SV.raw (u 144),
       SV.raw (u 145), SV.raw (u 146)]
      [Ent.mk (Loc.sl ao cap) (SObj.roL 1 encU8 bs (0 : Int)), pkA b grpE s,
       Ent.mk (Loc.sl (some (Addr.mk d 0 (@none Nat))) 8) (SObj.vecL (86 : TypeId) 1 encB done false),
       Ent.mk (Loc.sl an cn) (SObj.vecL (9 : TypeId) 1 encS notes ByteArray.empty)])
| false =>
 K (frm [] (bodyOf Try.f11) [1, 1, 1, 1, 1, 1, 1, 1, 1, 0, 1, 0] [])
  (Sy.mk
   [SV.vec 0 ao (List.length bs) cap, SV.int IntKind.u8 again, SV.int IntKind.u8 removed, SV.raw (u 3), SV.raw (u 4), SV.raw (u 5), SV.raw (u 6),
    SV.ptr 1 b 0, SV.str names8, SV.vec 3 an (List.length notes) cn, SV.ptr 2 d 0, SV.raw (u 11), SV.int IntKind.i64 (↑i : Int),
    SV.raw (u 13), SV.int IntKind.i64 (0 : Int), SV.raw (u 15), SV.raw (u 16), SV.raw (u 17), SV.raw (u 18), SV.raw (u 19), SV.raw (u 20),
    SV.raw (u 21), SV.raw (u 22), SV.raw (u 23), SV.raw (u 24), SV.raw (u 25), SV.raw (u 26), SV.raw (u 27), SV.raw (u 28),
    SV.raw (u 29), SV.raw (u 30), SV.raw (u 31), SV.raw (u 32), SV.raw (u 33), SV.raw (u 34), SV.raw (u 35), SV.raw (u 36),
    SV.raw (u 37), SV.raw (u 38), SV.raw (u 39), SV.raw (u 40), SV.raw (u 41), SV.raw (u 42), SV.raw (u 43), SV.raw (u 44),
    SV.raw (u 45), SV.raw (u 46), SV.raw (u 47), SV.raw (u 48), SV.int IntKind.i64 (↑i : Int), SV.vec 0 ao (List.length bs) cap,
    SV.int IntKind.i64 (↑(List.length bs) : Int), SV.bool false, SV.raw (u 53), SV.raw (u 54), SV.raw (u 55), SV.raw (u 56), SV.raw (u 57),
    SV.raw (u 58), SV.raw (u 59), SV.raw (u 60), SV.raw (u 61), SV.raw (u 62), SV.raw (u 63), SV.raw (u 64), SV.raw (u 65),
    SV.raw (u 66), SV.raw (u 67), SV.raw (u 68), SV.raw (u 69), SV.raw (u 70), SV.raw (u 71), SV.raw (u 72), SV.raw (u 73),
    SV.raw (u 74), SV.raw (u 75), SV.raw (u 76), SV.raw (u 77), SV.raw (u 78), SV.raw (u 79), SV.raw (u 80), SV.raw (u 81),
    SV.raw (u 82), SV.raw (u 83), SV.raw (u 84), SV.raw (u 85), SV.raw (u 86), SV.raw (u 87), SV.raw (u 88), SV.raw (u 89),
    SV.raw (u 90), SV.raw (u 91), SV.raw (u 92), SV.raw (u 93), SV.raw (u 94), SV.raw (u 95), SV.raw (u 96), SV.raw (u 97),
    SV.raw (u 98), SV.raw (u 99), SV.raw (u 100), SV.raw (u 101), SV.raw (u 102), SV.raw (u 103), SV.raw (u 104), SV.raw (u 105),
    SV.raw (u 106), SV.raw (u 107), SV.raw (u 108), SV.raw (u 109), SV.raw (u 110), SV.raw (u 111), SV.raw (u 112), SV.raw (u 113),
    SV.raw (u 114), SV.raw (u 115), SV.raw (u 116), SV.raw (u 117), SV.raw (u 118), SV.raw (u 119), SV.raw (u 120), SV.raw (u 121),
    SV.raw (u 122), SV.raw (u 123), SV.raw (u 124), SV.raw (u 125), SV.raw (u 126), SV.raw (u 127), SV.raw (u 128), SV.raw (u 129),
    SV.raw (u 130), SV.raw (u 131), SV.raw (u 132), SV.raw (u 133), SV.raw (u 134), SV.raw (u 135), SV.raw (u 136), SV.raw (u 137),
    SV.raw (u 138), SV.raw (u 139), SV.raw (u 140), SV.raw (u 141), SV.raw (u 142), SV.raw (u 143), SV.raw (u 144), SV.raw (u 145),
    SV.raw (u 146)]
   [Ent.mk (Loc.sl ao cap) (SObj.roL 1 encU8 bs (0 : Int)), pkA b grpE s,
    Ent.mk (Loc.sl (some (Addr.mk d 0 (@none Nat))) 8) (SObj.vecL (86 : TypeId) 1 encB done false),
    Ent.mk (Loc.sl an cn) (SObj.vecL (9 : TypeId) 1 encS notes ByteArray.empty)])) := by kernel_rfl


theorem gn_k (K : List Frm → Sy → Prop) (N : List Ent → SV → Prop) (J0 : Act → World → Prop) (ao : Option Addr) (cap : Nat) (bs : List Int) (again removed : Int) (b d : Nat) (s : Grp) (done : List Bool) (an : Option Addr) (cn : Nat) (notes : List ByteArray) (i k : Nat) (u : Nat → Value) : (run Try.prog gTk false [] K (retP Try.prog Try.f11.results.toList N) 1500 (frmR [J0] (bodyOf Try.f11) 18) ⟨mkT u 147 0 [(0, .vec 0 ao bs.length cap), (1, .int .u8 again), (2, .int .u8 removed), (7, .ptr 1 b 0), (8, .str names8), (9, .vec 3 an notes.length cn), (10, .ptr 2 d 0), (12, .int .i64 (i : Int)), (13, .int .i64 (k : Int))], [⟨.sl ao cap, .roL 1 encU8 bs 0⟩, pkA b grpE s, ⟨.sl (some ⟨d, 0, none⟩) 8, .vecL 86 1 encB done false⟩, ⟨.sl an cn, .vecL 9 1 encS notes ByteArray.empty⟩]⟩) = (
(some (Addr.mk d 0 (@none Nat)) = some (Addr.mk d 0 (@none Nat)) ∧ 0 = 0 ∧ 8 = List.length done ∧ (0 : Int) ≤ (↑k : Int) ∧ (↑k : Int) < (↑8 : Int)) ∧
 (d = Addr.blkD (some (Addr.mk d 0 (@none Nat))) ∧ 0 = Addr.offD (some (Addr.mk d 0 (@none Nat))) ∧ 1 = 1 ∧ Int.toNat (↑k : Int) < List.length done) ∧
  match List.getD done (Int.toNat (↑k : Int)) false with
  | true =>
   K (Frm.loop J0 :: Frm.blk 2 :: frm [] (bodyOf Try.f11) [1, 1, 1, 1, 1, 1, 1, 1, 1] [])
    (Sy.mk
     [SV.vec 0 ao (List.length bs) cap, SV.int IntKind.u8 again, SV.int IntKind.u8 removed, SV.raw (u 3), SV.raw (u 4), SV.raw (u 5), SV.raw (u 6),
      SV.ptr 1 b 0, SV.str names8, SV.vec 3 an (List.length notes) cn, SV.ptr 2 d 0, SV.raw (u 11),
      SV.int IntKind.i64 (IntKind.wrap IntKind.i64 ((↑i : Int) + (1 : Int))), SV.int IntKind.i64 (↑k : Int), SV.raw (u 14), SV.raw (u 15), SV.raw (u 16),
      SV.raw (u 17), SV.raw (u 18), SV.raw (u 19), SV.raw (u 20), SV.raw (u 21), SV.raw (u 22), SV.raw (u 23), SV.raw (u 24),
      SV.raw (u 25), SV.raw (u 26), SV.raw (u 27), SV.raw (u 28), SV.raw (u 29), SV.raw (u 30), SV.raw (u 31), SV.raw (u 32),
      SV.raw (u 33), SV.raw (u 34), SV.raw (u 35), SV.raw (u 36), SV.raw (u 37), SV.raw (u 38), SV.raw (u 39), SV.raw (u 40),
      SV.raw (u 41), SV.raw (u 42), SV.raw (u 43), SV.raw (u 44), SV.raw (u 45), SV.raw (u 46), SV.raw (u 47), SV.raw (u 48),
      SV.raw (u 49), SV.raw (u 50), SV.raw (u 51), SV.raw (u 52), SV.int IntKind.i64 (↑i : Int),
      SV.int IntKind.i64 (IntKind.wrap IntKind.i64 ((↑i : Int) + (1 : Int))), SV.raw (u 55), SV.raw (u 56), SV.raw (u 57), SV.raw (u 58), SV.raw (u 59),
      SV.raw (u 60), SV.int IntKind.i64 (↑k : Int), SV.eptr 2 d 0 1 (Int.toNat (↑k : Int)) 0, SV.bool true, SV.raw (u 64), SV.raw (u 65),
      SV.raw (u 66), SV.raw (u 67), SV.raw (u 68), SV.raw (u 69), SV.raw (u 70), SV.raw (u 71), SV.raw (u 72), SV.raw (u 73),
      SV.raw (u 74), SV.raw (u 75), SV.raw (u 76), SV.raw (u 77), SV.raw (u 78), SV.raw (u 79), SV.raw (u 80), SV.raw (u 81),
      SV.raw (u 82), SV.raw (u 83), SV.raw (u 84), SV.raw (u 85), SV.raw (u 86), SV.raw (u 87), SV.raw (u 88), SV.raw (u 89),
      SV.raw (u 90), SV.raw (u 91), SV.raw (u 92), SV.raw (u 93), SV.raw (u 94), SV.raw (u 95), SV.raw (u 96), SV.raw (u 97),
      SV.raw (u 98), SV.raw (u 99), SV.raw (u 100), SV.raw (u 101), SV.raw (u 102), SV.raw (u 103), SV.raw (u 104),
      SV.raw (u 105), SV.raw (u 106), SV.raw (u 107), SV.raw (u 108), SV.raw (u 109), SV.raw (u 110), SV.raw (u 111),
      SV.raw (u 112), SV.raw (u 113), SV.raw (u 114), SV.raw (u 115), SV.raw (u 116), SV.raw (u 117), SV.raw (u 118),
      SV.raw (u 119), SV.raw (u 120), SV.raw (u 121), SV.raw (u 122), SV.raw (u 123), SV.raw (u 124), SV.raw (u 125),
      SV.raw (u 126), SV.raw (u 127), SV.raw (u 128), SV.raw (u 129), SV.raw (u 130), SV.raw (u 131), SV.raw (u 132),
      SV.raw (u 133), SV.raw (u 134), SV.raw (u 135), SV.raw (u 136), SV.raw (u 137), SV.raw (u 138), SV.raw (u 139),
      SV.raw (u 140), SV.raw (u 141), SV.raw (u 142), SV.raw (u 143), SV.raw (u 144), SV.raw (u 145), SV.raw (u 146)]
     [Ent.mk (Loc.sl ao cap) (SObj.roL 1 encU8 bs (0 : Int)), pkA b grpE s,
      Ent.mk (Loc.sl (some (Addr.mk d 0 (@none Nat))) 8) (SObj.vecL (86 : TypeId) 1 encB done false),
      Ent.mk (Loc.sl an cn) (SObj.vecL (9 : TypeId) 1 encS notes ByteArray.empty)])
  | false =>
   (some (Addr.mk d 0 (@none Nat)) = some (Addr.mk d 0 (@none Nat)) ∧
    0 = 0 ∧ 8 = List.length done ∧ (0 : Int) ≤ (↑k : Int) ∧ (↑k : Int) < (↑8 : Int)) ∧
    (d = Addr.blkD (some (Addr.mk d 0 (@none Nat))) ∧
     0 = Addr.offD (some (Addr.mk d 0 (@none Nat))) ∧
      1 = 1 ∧ Int.toNat (↑k : Int) < List.length done ∧ true = true ∧ 1 = 1 ∧ 1 ≤ 1) ∧
     ∃ (e : Bool),
      [SV.bool e] = [SV.bool true] ∧
       true = true ∧
        b = b ∧
         ∃ (h : Grp = Grp),
          AdtIs (fun (s : Grp) (b : Nat) ↦ packs (grpE s b)) grpE ∧
           gOk s (IntKind.wrap IntKind.i64 ((↑k : Int) + (2 : Int))) ∧
            ∀ (ao_1 : Option Addr) (cap_1 : Nat),
             match !(gGone s (IntKind.wrap IntKind.i64 ((↑k : Int) + (2 : Int))) ao_1 cap_1).2 with
             | true =>
              N
               [Ent.mk (Loc.sl ao cap) (SObj.roL 1 encU8 bs (0 : Int)), pkA b grpE (gGone s (IntKind.wrap IntKind.i64 ((↑k : Int) + (2 : Int))) ao_1 cap_1).1,
                Ent.mk (Loc.sl (some (Addr.mk d 0 (@none Nat))) 8) (SObj.vecL (86 : TypeId) 1 encB (List.set done (Int.toNat (↑k : Int)) e) false),
                Ent.mk (Loc.sl an cn) (SObj.vecL (9 : TypeId) 1 encS notes ByteArray.empty)]
               (SV.bool false)
             | false =>
              (0 : Int) ≤ (↑k : Int) ∧
               (2 : Int) ≠ (0 : Int) ∧
                match Int.tmod (Int.fdiv again ((2 : Int) ^ min (Int.toNat (↑k : Int)) 8)) (2 : Int) == (1 : Int) with
                | true =>
                 ((0 : Int) ≤ (↑k : Int) ∧ (↑k : Int) ≤ IntKind.wrap IntKind.i64 ((↑k : Int) + (1 : Int)) ∧ IntKind.wrap IntKind.i64 ((↑k : Int) + (1 : Int)) ≤ (↑8 : Int)) ∧
                  true = true ∧
                   b = b ∧
                    ∃ (h : Grp = Grp),
                     AdtIs (fun (s : Grp) (b : Nat) ↦ packs (grpE s b)) grpE ∧
                      (gOk (gGone s (IntKind.wrap IntKind.i64 ((↑k : Int) + (2 : Int))) ao_1 cap_1).1 (IntKind.wrap IntKind.i64 ((↑k : Int) + (20 : Int))) ∧
                       keysOk (gGone s (IntKind.wrap IntKind.i64 ((↑k : Int) + (2 : Int))) ao_1 cap_1).1.gs) ∧
                       ∀ (ao_2 : Option Addr) (cap_2 : Nat),
                        match
                         (gPut (gGone s (IntKind.wrap IntKind.i64 ((↑k : Int) + (2 : Int))) ao_1 cap_1).1 (IntKind.wrap IntKind.i64 ((↑k : Int) + (20 : Int)))
                          (ByteArray.extract names8 (Int.toNat (↑k : Int)) (Int.toNat (IntKind.wrap IntKind.i64 ((↑k : Int) + (1 : Int))))) ao_2 cap_2).2 !=
                          (0 : Int) with
                        | true =>
                         N
                          [Ent.mk (Loc.sl ao cap) (SObj.roL 1 encU8 bs (0 : Int)),
                           pkA b grpE
                            (gPut (gGone s (IntKind.wrap IntKind.i64 ((↑k : Int) + (2 : Int))) ao_1 cap_1).1 (IntKind.wrap IntKind.i64 ((↑k : Int) + (20 : Int)))
                             (ByteArray.extract names8 (Int.toNat (↑k : Int)) (Int.toNat (IntKind.wrap IntKind.i64 ((↑k : Int) + (1 : Int))))) ao_2 cap_2).1,
                           Ent.mk (Loc.sl (some (Addr.mk d 0 (@none Nat))) 8)
                            (SObj.vecL (86 : TypeId) 1 encB (List.set done (Int.toNat (↑k : Int)) e) false),
                           Ent.mk (Loc.sl an cn) (SObj.vecL (9 : TypeId) 1 encS notes ByteArray.empty)]
                          (SV.bool false)
                        | false =>
                         ((0 : Int) ≤ (↑k : Int) ∧
                          (↑k : Int) ≤ IntKind.wrap IntKind.i64 ((↑k : Int) + (1 : Int)) ∧ IntKind.wrap IntKind.i64 ((↑k : Int) + (1 : Int)) ≤ (↑8 : Int)) ∧
                          true = true ∧
                           b = b ∧
                            ∃ (h : Grp = Grp),
                             AdtIs (fun (s : Grp) (b : Nat) ↦ packs (grpE s b)) grpE ∧
                              List.length
                               (gPut (gGone s (IntKind.wrap IntKind.i64 ((↑k : Int) + (2 : Int))) ao_1 cap_1).1 (IntKind.wrap IntKind.i64 ((↑k : Int) + (20 : Int)))
                                (ByteArray.extract names8 (Int.toNat (↑k : Int)) (Int.toNat (IntKind.wrap IntKind.i64 ((↑k : Int) + (1 : Int))))) ao_2
                                cap_2).1.7 ≤
                               100000000 ∧
                               match
                                (gRemove
                                 (gPut (gGone s (IntKind.wrap IntKind.i64 ((↑k : Int) + (2 : Int))) ao_1 cap_1).1
                                  (IntKind.wrap IntKind.i64 ((↑k : Int) + (20 : Int)))
                                  (ByteArray.extract names8 (Int.toNat (↑k : Int)) (Int.toNat (IntKind.wrap IntKind.i64 ((↑k : Int) + (1 : Int))))) ao_2
                                  cap_2).1
                                 (ByteArray.extract names8 (Int.toNat (↑k : Int)) (Int.toNat (IntKind.wrap IntKind.i64 ((↑k : Int) + (1 : Int)))))).2 !=
                                 (91 : Int) with
                               | true =>
                                N
                                 [Ent.mk (Loc.sl ao cap) (SObj.roL 1 encU8 bs (0 : Int)),
                                  pkA b grpE
                                   (gRemove
                                    (gPut (gGone s (IntKind.wrap IntKind.i64 ((↑k : Int) + (2 : Int))) ao_1 cap_1).1
                                     (IntKind.wrap IntKind.i64 ((↑k : Int) + (20 : Int)))
                                     (ByteArray.extract names8 (Int.toNat (↑k : Int)) (Int.toNat (IntKind.wrap IntKind.i64 ((↑k : Int) + (1 : Int))))) ao_2
                                     cap_2).1
                                    (ByteArray.extract names8 (Int.toNat (↑k : Int)) (Int.toNat (IntKind.wrap IntKind.i64 ((↑k : Int) + (1 : Int)))))).1,
                                  Ent.mk (Loc.sl (some (Addr.mk d 0 (@none Nat))) 8)
                                   (SObj.vecL (86 : TypeId) 1 encB (List.set done (Int.toNat (↑k : Int)) e) false),
                                  Ent.mk (Loc.sl an cn) (SObj.vecL (9 : TypeId) 1 encS notes ByteArray.empty)]
                                 (SV.bool false)
                               | false =>
                                K
                                 (Frm.loop J0 ::
                                  Frm.blk 2 ::
                                   frm [] (bodyOf Try.f11) [1, 1, 1, 1, 1, 1, 1, 1, 1] [])
                                 (Sy.mk
                                  [SV.vec 0 ao (List.length bs) cap, SV.int IntKind.u8 again, SV.int IntKind.u8 removed, SV.raw (u 3),
                                   SV.raw (u 4), SV.raw (u 5), SV.raw (u 6), SV.ptr 1 b 0, SV.str names8,
                                   SV.vec 3 an (List.length notes) cn, SV.ptr 2 d 0, SV.raw (u 11),
                                   SV.int IntKind.i64 (IntKind.wrap IntKind.i64 ((↑i : Int) + (1 : Int))), SV.int IntKind.i64 (↑k : Int), SV.raw (u 14),
                                   SV.raw (u 15), SV.raw (u 16), SV.raw (u 17), SV.raw (u 18), SV.raw (u 19),
                                   SV.raw (u 20), SV.raw (u 21), SV.raw (u 22), SV.raw (u 23), SV.raw (u 24),
                                   SV.raw (u 25), SV.raw (u 26), SV.raw (u 27), SV.raw (u 28), SV.raw (u 29),
                                   SV.raw (u 30), SV.raw (u 31), SV.raw (u 32), SV.raw (u 33), SV.raw (u 34),
                                   SV.raw (u 35), SV.raw (u 36), SV.raw (u 37), SV.raw (u 38), SV.raw (u 39),
                                   SV.raw (u 40), SV.raw (u 41), SV.raw (u 42), SV.raw (u 43), SV.raw (u 44),
                                   SV.raw (u 45), SV.raw (u 46), SV.raw (u 47), SV.raw (u 48), SV.raw (u 49),
                                   SV.raw (u 50), SV.raw (u 51), SV.raw (u 52), SV.int IntKind.i64 (↑i : Int),
                                   SV.int IntKind.i64 (IntKind.wrap IntKind.i64 ((↑i : Int) + (1 : Int))), SV.raw (u 55), SV.raw (u 56),
                                   SV.raw (u 57), SV.raw (u 58), SV.raw (u 59), SV.raw (u 60), SV.int IntKind.i64 (↑k : Int),
                                   SV.eptr 2 d 0 1 (Int.toNat (↑k : Int)) 0, SV.bool false, SV.int IntKind.i64 (↑k : Int),
                                   SV.eptr 2 d 0 1 (Int.toNat (↑k : Int)) 0, SV.ptr 1 b 0,
                                   SV.int IntKind.i64 (↑k : Int), SV.int IntKind.i64 (IntKind.wrap IntKind.i64 ((↑k : Int) + (2 : Int))),
                                   SV.bool (gGone s (IntKind.wrap IntKind.i64 ((↑k : Int) + (2 : Int))) ao_1 cap_1).2, SV.bool false, SV.raw (u 71),
                                   SV.raw (u 72), SV.raw (u 73), SV.raw (u 74), SV.raw (u 75), SV.raw (u 76),
                                   SV.raw (u 77), SV.raw (u 78), SV.bool true, SV.int IntKind.u8 again, SV.int IntKind.i64 (↑k : Int),
                                   SV.int IntKind.u8 (Int.fdiv again ((2 : Int) ^ min (Int.toNat (↑k : Int)) 8)),
                                   SV.int IntKind.u8 (Int.tmod (Int.fdiv again ((2 : Int) ^ min (Int.toNat (↑k : Int)) 8)) (2 : Int)),
                                   SV.bool (Int.tmod (Int.fdiv again ((2 : Int) ^ min (Int.toNat (↑k : Int)) 8)) (2 : Int) == (1 : Int)),
                                   SV.ptr 1 b 0, SV.int IntKind.i64 (↑k : Int),
                                   SV.int IntKind.i64 (IntKind.wrap IntKind.i64 ((↑k : Int) + (20 : Int))), SV.str names8, SV.int IntKind.i64 (↑k : Int),
                                   SV.int IntKind.i64 (↑k : Int), SV.int IntKind.i64 (IntKind.wrap IntKind.i64 ((↑k : Int) + (1 : Int))),
                                   SV.str (ByteArray.extract names8 (Int.toNat (↑k : Int)) (Int.toNat (IntKind.wrap IntKind.i64 ((↑k : Int) + (1 : Int))))),
                                   SV.int IntKind.i64
                                    (gPut (gGone s (IntKind.wrap IntKind.i64 ((↑k : Int) + (2 : Int))) ao_1 cap_1).1
                                     (IntKind.wrap IntKind.i64 ((↑k : Int) + (20 : Int)))
                                     (ByteArray.extract names8 (Int.toNat (↑k : Int)) (Int.toNat (IntKind.wrap IntKind.i64 ((↑k : Int) + (1 : Int))))) ao_2
                                     cap_2).2,
                                   SV.bool
                                    ((gPut (gGone s (IntKind.wrap IntKind.i64 ((↑k : Int) + (2 : Int))) ao_1 cap_1).1
                                     (IntKind.wrap IntKind.i64 ((↑k : Int) + (20 : Int)))
                                     (ByteArray.extract names8 (Int.toNat (↑k : Int)) (Int.toNat (IntKind.wrap IntKind.i64 ((↑k : Int) + (1 : Int))))) ao_2
                                     cap_2).2 !=
                                     (0 : Int)),
                                   SV.bool false, SV.ptr 1 b 0, SV.str names8, SV.int IntKind.i64 (↑k : Int), SV.int IntKind.i64 (↑k : Int),
                                   SV.int IntKind.i64 (IntKind.wrap IntKind.i64 ((↑k : Int) + (1 : Int))),
                                   SV.str (ByteArray.extract names8 (Int.toNat (↑k : Int)) (Int.toNat (IntKind.wrap IntKind.i64 ((↑k : Int) + (1 : Int))))),
                                   SV.int IntKind.i64
                                    (gRemove
                                     (gPut (gGone s (IntKind.wrap IntKind.i64 ((↑k : Int) + (2 : Int))) ao_1 cap_1).1
                                      (IntKind.wrap IntKind.i64 ((↑k : Int) + (20 : Int)))
                                      (ByteArray.extract names8 (Int.toNat (↑k : Int)) (Int.toNat (IntKind.wrap IntKind.i64 ((↑k : Int) + (1 : Int))))) ao_2
                                      cap_2).1
                                     (ByteArray.extract names8 (Int.toNat (↑k : Int)) (Int.toNat (IntKind.wrap IntKind.i64 ((↑k : Int) + (1 : Int)))))).2,
                                   SV.bool
                                    ((gRemove
                                     (gPut (gGone s (IntKind.wrap IntKind.i64 ((↑k : Int) + (2 : Int))) ao_1 cap_1).1
                                      (IntKind.wrap IntKind.i64 ((↑k : Int) + (20 : Int)))
                                      (ByteArray.extract names8 (Int.toNat (↑k : Int)) (Int.toNat (IntKind.wrap IntKind.i64 ((↑k : Int) + (1 : Int))))) ao_2
                                      cap_2).1
                                     (ByteArray.extract names8 (Int.toNat (↑k : Int)) (Int.toNat (IntKind.wrap IntKind.i64 ((↑k : Int) + (1 : Int)))))).2 !=
                                     (91 : Int)),
                                   SV.bool false, SV.raw (u 105), SV.raw (u 106), SV.raw (u 107), SV.raw (u 108),
                                   SV.raw (u 109), SV.raw (u 110), SV.raw (u 111), SV.raw (u 112), SV.raw (u 113),
                                   SV.raw (u 114), SV.raw (u 115), SV.raw (u 116), SV.raw (u 117), SV.raw (u 118),
                                   SV.raw (u 119), SV.raw (u 120), SV.raw (u 121), SV.raw (u 122), SV.raw (u 123),
                                   SV.raw (u 124), SV.raw (u 125), SV.raw (u 126), SV.raw (u 127), SV.raw (u 128),
                                   SV.raw (u 129), SV.raw (u 130), SV.raw (u 131), SV.raw (u 132), SV.raw (u 133),
                                   SV.raw (u 134), SV.raw (u 135), SV.raw (u 136), SV.raw (u 137), SV.raw (u 138),
                                   SV.raw (u 139), SV.raw (u 140), SV.raw (u 141), SV.raw (u 142), SV.raw (u 143),
                                   SV.raw (u 144), SV.raw (u 145), SV.raw (u 146)]
                                  [Ent.mk (Loc.sl ao cap) (SObj.roL 1 encU8 bs (0 : Int)),
                                   pkA b grpE
                                    (gRemove
                                     (gPut (gGone s (IntKind.wrap IntKind.i64 ((↑k : Int) + (2 : Int))) ao_1 cap_1).1
                                      (IntKind.wrap IntKind.i64 ((↑k : Int) + (20 : Int)))
                                      (ByteArray.extract names8 (Int.toNat (↑k : Int)) (Int.toNat (IntKind.wrap IntKind.i64 ((↑k : Int) + (1 : Int))))) ao_2
                                      cap_2).1
                                     (ByteArray.extract names8 (Int.toNat (↑k : Int)) (Int.toNat (IntKind.wrap IntKind.i64 ((↑k : Int) + (1 : Int)))))).1,
                                   Ent.mk (Loc.sl (some (Addr.mk d 0 (@none Nat))) 8)
                                    (SObj.vecL (86 : TypeId) 1 encB (List.set done (Int.toNat (↑k : Int)) e) false),
                                   Ent.mk (Loc.sl an cn) (SObj.vecL (9 : TypeId) 1 encS notes ByteArray.empty)])
                | false =>
                 (0 : Int) ≤ (↑k : Int) ∧
                  (2 : Int) ≠ (0 : Int) ∧
                   match Int.tmod (Int.fdiv removed ((2 : Int) ^ min (Int.toNat (↑k : Int)) 8)) (2 : Int) == (1 : Int) with
                   | true =>
                    ((0 : Int) ≤ (↑k : Int) ∧
                     (↑k : Int) ≤ IntKind.wrap IntKind.i64 ((↑k : Int) + (1 : Int)) ∧ IntKind.wrap IntKind.i64 ((↑k : Int) + (1 : Int)) ≤ (↑8 : Int)) ∧
                     true = true ∧
                      b = b ∧
                       ∃ (h : Grp = Grp),
                        AdtIs (fun (s : Grp) (b : Nat) ↦ packs (grpE s b)) grpE ∧
                         List.length (gGone s (IntKind.wrap IntKind.i64 ((↑k : Int) + (2 : Int))) ao_1 cap_1).1.7 ≤ 100000000 ∧
                          match
                           (gRemove (gGone s (IntKind.wrap IntKind.i64 ((↑k : Int) + (2 : Int))) ao_1 cap_1).1
                            (ByteArray.extract names8 (Int.toNat (↑k : Int)) (Int.toNat (IntKind.wrap IntKind.i64 ((↑k : Int) + (1 : Int)))))).2 !=
                            (0 : Int) with
                          | true =>
                           N
                            [Ent.mk (Loc.sl ao cap) (SObj.roL 1 encU8 bs (0 : Int)),
                             pkA b grpE
                              (gRemove (gGone s (IntKind.wrap IntKind.i64 ((↑k : Int) + (2 : Int))) ao_1 cap_1).1
                               (ByteArray.extract names8 (Int.toNat (↑k : Int)) (Int.toNat (IntKind.wrap IntKind.i64 ((↑k : Int) + (1 : Int)))))).1,
                             Ent.mk (Loc.sl (some (Addr.mk d 0 (@none Nat))) 8)
                              (SObj.vecL (86 : TypeId) 1 encB (List.set done (Int.toNat (↑k : Int)) e) false),
                             Ent.mk (Loc.sl an cn) (SObj.vecL (9 : TypeId) 1 encS notes ByteArray.empty)]
                            (SV.bool false)
                          | false =>
                           K
                            (Frm.loop J0 ::
                             Frm.blk 2 ::
                              frm [] (bodyOf Try.f11) [1, 1, 1, 1, 1, 1, 1, 1, 1] [])
                            (Sy.mk
                             [SV.vec 0 ao (List.length bs) cap, SV.int IntKind.u8 again, SV.int IntKind.u8 removed, SV.raw (u 3), SV.raw (u 4),
                              SV.raw (u 5), SV.raw (u 6), SV.ptr 1 b 0, SV.str names8, SV.vec 3 an (List.length notes) cn,
                              SV.ptr 2 d 0, SV.raw (u 11), SV.int IntKind.i64 (IntKind.wrap IntKind.i64 ((↑i : Int) + (1 : Int))),
                              SV.int IntKind.i64 (↑k : Int), SV.raw (u 14), SV.raw (u 15), SV.raw (u 16), SV.raw (u 17),
                              SV.raw (u 18), SV.raw (u 19), SV.raw (u 20), SV.raw (u 21), SV.raw (u 22), SV.raw (u 23),
                              SV.raw (u 24), SV.raw (u 25), SV.raw (u 26), SV.raw (u 27), SV.raw (u 28), SV.raw (u 29),
                              SV.raw (u 30), SV.raw (u 31), SV.raw (u 32), SV.raw (u 33), SV.raw (u 34), SV.raw (u 35),
                              SV.raw (u 36), SV.raw (u 37), SV.raw (u 38), SV.raw (u 39), SV.raw (u 40), SV.raw (u 41),
                              SV.raw (u 42), SV.raw (u 43), SV.raw (u 44), SV.raw (u 45), SV.raw (u 46), SV.raw (u 47),
                              SV.raw (u 48), SV.raw (u 49), SV.raw (u 50), SV.raw (u 51), SV.raw (u 52),
                              SV.int IntKind.i64 (↑i : Int), SV.int IntKind.i64 (IntKind.wrap IntKind.i64 ((↑i : Int) + (1 : Int))), SV.raw (u 55),
                              SV.raw (u 56), SV.raw (u 57), SV.raw (u 58), SV.raw (u 59), SV.raw (u 60),
                              SV.int IntKind.i64 (↑k : Int), SV.eptr 2 d 0 1 (Int.toNat (↑k : Int)) 0, SV.bool false,
                              SV.int IntKind.i64 (↑k : Int), SV.eptr 2 d 0 1 (Int.toNat (↑k : Int)) 0, SV.ptr 1 b 0,
                              SV.int IntKind.i64 (↑k : Int), SV.int IntKind.i64 (IntKind.wrap IntKind.i64 ((↑k : Int) + (2 : Int))),
                              SV.bool (gGone s (IntKind.wrap IntKind.i64 ((↑k : Int) + (2 : Int))) ao_1 cap_1).2, SV.bool false, SV.raw (u 71),
                              SV.raw (u 72), SV.raw (u 73), SV.raw (u 74), SV.raw (u 75), SV.raw (u 76), SV.raw (u 77),
                              SV.raw (u 78), SV.bool false, SV.int IntKind.u8 again, SV.int IntKind.i64 (↑k : Int),
                              SV.int IntKind.u8 (Int.fdiv again ((2 : Int) ^ min (Int.toNat (↑k : Int)) 8)),
                              SV.int IntKind.u8 (Int.tmod (Int.fdiv again ((2 : Int) ^ min (Int.toNat (↑k : Int)) 8)) (2 : Int)),
                              SV.bool (Int.tmod (Int.fdiv again ((2 : Int) ^ min (Int.toNat (↑k : Int)) 8)) (2 : Int) == (1 : Int)), SV.raw (u 85),
                              SV.raw (u 86), SV.raw (u 87), SV.raw (u 88), SV.raw (u 89), SV.raw (u 90), SV.raw (u 91),
                              SV.raw (u 92), SV.raw (u 93), SV.raw (u 94), SV.raw (u 95), SV.raw (u 96), SV.raw (u 97),
                              SV.raw (u 98), SV.raw (u 99), SV.raw (u 100), SV.raw (u 101), SV.raw (u 102),
                              SV.raw (u 103), SV.raw (u 104), SV.bool true, SV.int IntKind.u8 removed, SV.int IntKind.i64 (↑k : Int),
                              SV.int IntKind.u8 (Int.fdiv removed ((2 : Int) ^ min (Int.toNat (↑k : Int)) 8)),
                              SV.int IntKind.u8 (Int.tmod (Int.fdiv removed ((2 : Int) ^ min (Int.toNat (↑k : Int)) 8)) (2 : Int)),
                              SV.bool (Int.tmod (Int.fdiv removed ((2 : Int) ^ min (Int.toNat (↑k : Int)) 8)) (2 : Int) == (1 : Int)),
                              SV.ptr 1 b 0, SV.str names8, SV.int IntKind.i64 (↑k : Int), SV.int IntKind.i64 (↑k : Int),
                              SV.int IntKind.i64 (IntKind.wrap IntKind.i64 ((↑k : Int) + (1 : Int))),
                              SV.str (ByteArray.extract names8 (Int.toNat (↑k : Int)) (Int.toNat (IntKind.wrap IntKind.i64 ((↑k : Int) + (1 : Int))))),
                              SV.int IntKind.i64
                               (gRemove (gGone s (IntKind.wrap IntKind.i64 ((↑k : Int) + (2 : Int))) ao_1 cap_1).1
                                (ByteArray.extract names8 (Int.toNat (↑k : Int)) (Int.toNat (IntKind.wrap IntKind.i64 ((↑k : Int) + (1 : Int)))))).2,
                              SV.bool false, SV.raw (u 119), SV.raw (u 120), SV.raw (u 121), SV.raw (u 122), SV.raw (u 123),
                              SV.raw (u 124), SV.raw (u 125), SV.raw (u 126), SV.raw (u 127), SV.raw (u 128),
                              SV.raw (u 129), SV.raw (u 130), SV.raw (u 131), SV.raw (u 132), SV.raw (u 133),
                              SV.raw (u 134), SV.raw (u 135), SV.raw (u 136), SV.raw (u 137), SV.raw (u 138),
                              SV.raw (u 139), SV.raw (u 140), SV.raw (u 141), SV.raw (u 142), SV.raw (u 143),
                              SV.raw (u 144), SV.raw (u 145), SV.raw (u 146)]
                             [Ent.mk (Loc.sl ao cap) (SObj.roL 1 encU8 bs (0 : Int)),
                              pkA b grpE
                               (gRemove (gGone s (IntKind.wrap IntKind.i64 ((↑k : Int) + (2 : Int))) ao_1 cap_1).1
                                (ByteArray.extract names8 (Int.toNat (↑k : Int)) (Int.toNat (IntKind.wrap IntKind.i64 ((↑k : Int) + (1 : Int)))))).1,
                              Ent.mk (Loc.sl (some (Addr.mk d 0 (@none Nat))) 8)
                               (SObj.vecL (86 : TypeId) 1 encB (List.set done (Int.toNat (↑k : Int)) e) false),
                              Ent.mk (Loc.sl an cn) (SObj.vecL (9 : TypeId) 1 encS notes ByteArray.empty)])
                   | false =>
                    ((0 : Int) ≤ (↑k : Int) ∧
                     (↑k : Int) ≤ IntKind.wrap IntKind.i64 ((↑k : Int) + (1 : Int)) ∧ IntKind.wrap IntKind.i64 ((↑k : Int) + (1 : Int)) ≤ (↑8 : Int)) ∧
                     (true = true ∧ 1 = 1 ∧ 0 < 1 ∧ 1 ≤ 16777216) ∧
                      ∀ (b_1 : Nat),
                       (an = an ∧
                        cn = cn ∧
                         List.length notes = List.length notes ∧
                          some (Addr.mk b_1 0 (@none Nat)) = some (Addr.mk b_1 0 (@none Nat)) ∧
                           (9 : TypeId) = 9 ∧
                            1 = 1 ∧
                             1 = 1 ∧
                              0 < 1 ∧
                               true = true ∧
                                (List.length notes + 1) * 16 ≤ 140737488355328 ∧
                                 List.length notes + 1 ≤ 9223372036854775807) ∧
                        ∃ (es : List ByteArray),
                         List.length es = 1 ∧
                          List.flatMap encS es = [SV.str (ByteArray.extract names8 (Int.toNat (↑k : Int)) (Int.toNat (IntKind.wrap IntKind.i64 ((↑k : Int) + (1 : Int)))))] ∧
                           ∀ (ao2 : Option Addr) (cap2 : Nat),
                            List.length notes + 1 ≤ cap2 →
                             K
                              (Frm.loop J0 ::
                               Frm.blk 2 ::
                                frm [] (bodyOf Try.f11) [1, 1, 1, 1, 1, 1, 1, 1, 1] [])
                              (Sy.mk
                               [SV.vec 0 ao (List.length bs) cap, SV.int IntKind.u8 again, SV.int IntKind.u8 removed, SV.raw (u 3), SV.raw (u 4),
                                SV.raw (u 5), SV.raw (u 6), SV.ptr 1 b 0, SV.str names8,
                                SV.vec 3 ao2 (List.length notes + 1) cap2, SV.ptr 2 d 0, SV.raw (u 11),
                                SV.int IntKind.i64 (IntKind.wrap IntKind.i64 ((↑i : Int) + (1 : Int))), SV.int IntKind.i64 (↑k : Int), SV.raw (u 14),
                                SV.raw (u 15), SV.raw (u 16), SV.raw (u 17), SV.raw (u 18), SV.raw (u 19),
                                SV.raw (u 20), SV.raw (u 21), SV.raw (u 22), SV.raw (u 23), SV.raw (u 24),
                                SV.raw (u 25), SV.raw (u 26), SV.raw (u 27), SV.raw (u 28), SV.raw (u 29),
                                SV.raw (u 30), SV.raw (u 31), SV.raw (u 32), SV.raw (u 33), SV.raw (u 34),
                                SV.raw (u 35), SV.raw (u 36), SV.raw (u 37), SV.raw (u 38), SV.raw (u 39),
                                SV.raw (u 40), SV.raw (u 41), SV.raw (u 42), SV.raw (u 43), SV.raw (u 44),
                                SV.raw (u 45), SV.raw (u 46), SV.raw (u 47), SV.raw (u 48), SV.raw (u 49),
                                SV.raw (u 50), SV.raw (u 51), SV.raw (u 52), SV.int IntKind.i64 (↑i : Int),
                                SV.int IntKind.i64 (IntKind.wrap IntKind.i64 ((↑i : Int) + (1 : Int))), SV.raw (u 55), SV.raw (u 56),
                                SV.raw (u 57), SV.raw (u 58), SV.raw (u 59), SV.raw (u 60), SV.int IntKind.i64 (↑k : Int),
                                SV.eptr 2 d 0 1 (Int.toNat (↑k : Int)) 0, SV.bool false, SV.int IntKind.i64 (↑k : Int),
                                SV.eptr 2 d 0 1 (Int.toNat (↑k : Int)) 0, SV.ptr 1 b 0, SV.int IntKind.i64 (↑k : Int),
                                SV.int IntKind.i64 (IntKind.wrap IntKind.i64 ((↑k : Int) + (2 : Int))),
                                SV.bool (gGone s (IntKind.wrap IntKind.i64 ((↑k : Int) + (2 : Int))) ao_1 cap_1).2, SV.bool false,
                                SV.vec 3 an (List.length notes) cn, SV.str names8, SV.int IntKind.i64 (↑k : Int), SV.int IntKind.i64 (↑k : Int),
                                SV.int IntKind.i64 (IntKind.wrap IntKind.i64 ((↑k : Int) + (1 : Int))),
                                SV.str (ByteArray.extract names8 (Int.toNat (↑k : Int)) (Int.toNat (IntKind.wrap IntKind.i64 ((↑k : Int) + (1 : Int))))),
                                SV.vec 4 (some (Addr.mk b_1 0 (@none Nat))) 1 1,
                                SV.vec 3 ao2 (List.length notes + 1) cap2, SV.bool false, SV.int IntKind.u8 again, SV.int IntKind.i64 (↑k : Int),
                                SV.int IntKind.u8 (Int.fdiv again ((2 : Int) ^ min (Int.toNat (↑k : Int)) 8)),
                                SV.int IntKind.u8 (Int.tmod (Int.fdiv again ((2 : Int) ^ min (Int.toNat (↑k : Int)) 8)) (2 : Int)),
                                SV.bool (Int.tmod (Int.fdiv again ((2 : Int) ^ min (Int.toNat (↑k : Int)) 8)) (2 : Int) == (1 : Int)), SV.raw (u 85),
                                SV.raw (u 86), SV.raw (u 87), SV.raw (u 88), SV.raw (u 89), SV.raw (u 90),
                                SV.raw (u 91), SV.raw (u 92), SV.raw (u 93), SV.raw (u 94), SV.raw (u 95),
                                SV.raw (u 96), SV.raw (u 97), SV.raw (u 98), SV.raw (u 99), SV.raw (u 100),
                                SV.raw (u 101), SV.raw (u 102), SV.raw (u 103), SV.raw (u 104), SV.bool false,
                                SV.int IntKind.u8 removed, SV.int IntKind.i64 (↑k : Int),
                                SV.int IntKind.u8 (Int.fdiv removed ((2 : Int) ^ min (Int.toNat (↑k : Int)) 8)),
                                SV.int IntKind.u8 (Int.tmod (Int.fdiv removed ((2 : Int) ^ min (Int.toNat (↑k : Int)) 8)) (2 : Int)),
                                SV.bool (Int.tmod (Int.fdiv removed ((2 : Int) ^ min (Int.toNat (↑k : Int)) 8)) (2 : Int) == (1 : Int)), SV.raw (u 111),
                                SV.raw (u 112), SV.raw (u 113), SV.raw (u 114), SV.raw (u 115), SV.raw (u 116),
                                SV.raw (u 117), SV.raw (u 118), SV.raw (u 119), SV.raw (u 120), SV.raw (u 121),
                                SV.raw (u 122), SV.raw (u 123), SV.raw (u 124), SV.raw (u 125), SV.raw (u 126),
                                SV.raw (u 127), SV.raw (u 128), SV.raw (u 129), SV.raw (u 130), SV.raw (u 131),
                                SV.raw (u 132), SV.raw (u 133), SV.raw (u 134), SV.raw (u 135), SV.raw (u 136),
                                SV.raw (u 137), SV.raw (u 138), SV.raw (u 139), SV.raw (u 140), SV.raw (u 141),
                                SV.raw (u 142), SV.raw (u 143), SV.raw (u 144), SV.raw (u 145), SV.raw (u 146)]
                               [Ent.mk (Loc.sl ao cap) (SObj.roL 1 encU8 bs (0 : Int)),
                                pkA b grpE (gGone s (IntKind.wrap IntKind.i64 ((↑k : Int) + (2 : Int))) ao_1 cap_1).1,
                                Ent.mk (Loc.sl (some (Addr.mk d 0 (@none Nat))) 8)
                                 (SObj.vecL (86 : TypeId) 1 encB (List.set done (Int.toNat (↑k : Int)) e) false),
                                Ent.mk (Loc.sl ao2 cap2) (SObj.vecL (9 : TypeId) 1 encS (notes ++ es) ByteArray.empty),
                                Ent.mk (Loc.blk b_1)
                                 (SObj.cells [SV.str (ByteArray.extract names8 (Int.toNat (↑k : Int)) (Int.toNat (IntKind.wrap IntKind.i64 ((↑k : Int) + (1 : Int)))))]
                                  9)])) := by kernel_rfl


theorem gn_l3 (K : List Frm → Sy → Prop) (N : List Ent → SV → Prop) (J : Act → World → Prop) (ao : Option Addr) (cap : Nat) (bs : List Int) (again removed : Int) (b d : Nat) (s : Grp) (done : List Bool) (an : Option Addr) (cn : Nat) (notes : List ByteArray) (i : Nat) (u : Nat → Value) : (run Try.prog gTk false [] K (retP Try.prog Try.f11.results.toList N) 1500 (frm [J] (bodyOf Try.f11) [1, 1, 1, 1, 1, 1, 1, 1, 1, 0, 1, 0, 0] []) ⟨mkT u 147 0 [(0, .vec 0 ao bs.length cap), (1, .int .u8 again), (2, .int .u8 removed), (7, .ptr 1 b 0), (8, .str names8), (9, .vec 3 an notes.length cn), (10, .ptr 2 d 0), (14, .int .i64 (i : Int))], [⟨.sl ao cap, .roL 1 encU8 bs 0⟩, pkA b grpE s, ⟨.sl (some ⟨d, 0, none⟩) 8, .vecL 86 1 encB done false⟩, ⟨.sl an cn, .vecL 9 1 encS notes ByteArray.empty⟩]⟩) = (
match decide ((↑i : Int) < (↑(List.length notes) : Int)) with
| true =>
 true = true ∧
  b = b ∧
   ∃ (h : Grp = Grp),
    AdtIs (fun (s : Grp) (b : Nat) ↦ packs (grpE s b)) grpE ∧
     ∀ (ao_1 : Option Addr) (cap_1 : Nat),
      match !Option.isSome (gEmptied s ao_1 cap_1).2 with
      | true =>
       N
        [Ent.mk (Loc.sl ao cap) (SObj.roL 1 encU8 bs (0 : Int)), pkA b grpE (gEmptied s ao_1 cap_1).1,
         Ent.mk (Loc.sl (some (Addr.mk d 0 (@none Nat))) 8) (SObj.vecL (86 : TypeId) 1 encB done false),
         Ent.mk (Loc.sl an cn) (SObj.vecL (9 : TypeId) 1 encS notes ByteArray.empty)]
        (SV.bool false)
      | false =>
       (an = an ∧ cn = cn ∧ List.length notes = List.length notes ∧ (0 : Int) ≤ (↑i : Int) ∧ (↑i : Int) < (↑(List.length notes) : Int)) ∧
        (Addr.blkD an = Addr.blkD an ∧ Addr.offD an = Addr.offD an ∧ 1 = 1 ∧ Int.toNat (↑i : Int) < List.length notes) ∧
         match
          !sEq
           (match (gEmptied s ao_1 cap_1).2 with
           | some x => x
           | none => ByteArray.mk #[])
           (List.getD notes (Int.toNat (↑i : Int)) ByteArray.empty) with
         | true =>
          N
           [Ent.mk (Loc.sl ao cap) (SObj.roL 1 encU8 bs (0 : Int)), pkA b grpE (gEmptied s ao_1 cap_1).1,
            Ent.mk (Loc.sl (some (Addr.mk d 0 (@none Nat))) 8) (SObj.vecL (86 : TypeId) 1 encB done false),
            Ent.mk (Loc.sl an cn) (SObj.vecL (9 : TypeId) 1 encS notes ByteArray.empty)]
           (SV.bool false)
         | false =>
          K (Frm.loop J :: Frm.blk 5 :: frm [] (bodyOf Try.f11) [1, 1, 1, 1, 1, 1, 1, 1, 1, 1] [])
           (Sy.mk
            [SV.vec 0 ao (List.length bs) cap, SV.int IntKind.u8 again, SV.int IntKind.u8 removed, SV.raw (u 3), SV.raw (u 4), SV.raw (u 5),
             SV.raw (u 6), SV.ptr 1 b 0, SV.str names8, SV.vec 3 an (List.length notes) cn, SV.ptr 2 d 0, SV.raw (u 11),
             SV.raw (u 12), SV.raw (u 13), SV.int IntKind.i64 (IntKind.wrap IntKind.i64 ((↑i : Int) + (1 : Int))),
             SV.str
              (match (gEmptied s ao_1 cap_1).2 with
              | some x => x
              | none => ByteArray.mk #[]),
             SV.bool (Option.isSome (gEmptied s ao_1 cap_1).2), SV.raw (u 17), SV.raw (u 18), SV.raw (u 19), SV.raw (u 20), SV.raw (u 21),
             SV.raw (u 22), SV.raw (u 23), SV.raw (u 24), SV.raw (u 25), SV.raw (u 26), SV.raw (u 27), SV.raw (u 28),
             SV.raw (u 29), SV.raw (u 30), SV.raw (u 31), SV.raw (u 32), SV.raw (u 33), SV.raw (u 34), SV.raw (u 35),
             SV.raw (u 36), SV.raw (u 37), SV.raw (u 38), SV.raw (u 39), SV.raw (u 40), SV.raw (u 41), SV.raw (u 42),
             SV.raw (u 43), SV.raw (u 44), SV.raw (u 45), SV.raw (u 46), SV.raw (u 47), SV.raw (u 48), SV.raw (u 49),
             SV.raw (u 50), SV.raw (u 51), SV.raw (u 52), SV.raw (u 53), SV.raw (u 54), SV.raw (u 55), SV.raw (u 56),
             SV.raw (u 57), SV.raw (u 58), SV.raw (u 59), SV.raw (u 60), SV.raw (u 61), SV.raw (u 62), SV.raw (u 63),
             SV.raw (u 64), SV.raw (u 65), SV.raw (u 66), SV.raw (u 67), SV.raw (u 68), SV.raw (u 69), SV.raw (u 70),
             SV.raw (u 71), SV.raw (u 72), SV.raw (u 73), SV.raw (u 74), SV.raw (u 75), SV.raw (u 76), SV.raw (u 77),
             SV.raw (u 78), SV.raw (u 79), SV.raw (u 80), SV.raw (u 81), SV.raw (u 82), SV.raw (u 83), SV.raw (u 84),
             SV.raw (u 85), SV.raw (u 86), SV.raw (u 87), SV.raw (u 88), SV.raw (u 89), SV.raw (u 90), SV.raw (u 91),
             SV.raw (u 92), SV.raw (u 93), SV.raw (u 94), SV.raw (u 95), SV.raw (u 96), SV.raw (u 97), SV.raw (u 98),
             SV.raw (u 99), SV.raw (u 100), SV.raw (u 101), SV.raw (u 102), SV.raw (u 103), SV.raw (u 104), SV.raw (u 105),
             SV.raw (u 106), SV.raw (u 107), SV.raw (u 108), SV.raw (u 109), SV.raw (u 110), SV.raw (u 111), SV.raw (u 112),
             SV.raw (u 113), SV.raw (u 114), SV.raw (u 115), SV.raw (u 116), SV.raw (u 117), SV.raw (u 118), SV.int IntKind.i64 (↑i : Int),
             SV.vec 3 an (List.length notes) cn, SV.int IntKind.i64 (↑(List.length notes) : Int), SV.bool true, SV.int IntKind.i64 (↑i : Int),
             SV.int IntKind.i64 (IntKind.wrap IntKind.i64 ((↑i : Int) + (1 : Int))),
             SV.tuple
              [SV.str
               (match (gEmptied s ao_1 cap_1).2 with
               | some x => x
               | none => ByteArray.mk #[]),
               SV.bool (Option.isSome (gEmptied s ao_1 cap_1).2)],
             SV.ptr 1 b 0,
             SV.tuple
              [SV.str
               (match (gEmptied s ao_1 cap_1).2 with
               | some x => x
               | none => ByteArray.mk #[]),
               SV.bool (Option.isSome (gEmptied s ao_1 cap_1).2)],
             SV.str
              (match (gEmptied s ao_1 cap_1).2 with
              | some x => x
              | none => ByteArray.mk #[]),
             SV.bool (Option.isSome (gEmptied s ao_1 cap_1).2), SV.bool (Option.isSome (gEmptied s ao_1 cap_1).2), SV.bool !Option.isSome (gEmptied s ao_1 cap_1).2, SV.bool false,
             SV.str
              (match (gEmptied s ao_1 cap_1).2 with
              | some x => x
              | none => ByteArray.mk #[]),
             SV.vec 3 an (List.length notes) cn, SV.int IntKind.i64 (↑i : Int), SV.eptr 3 (Addr.blkD an) (Addr.offD an) 1 (Int.toNat (↑i : Int)) 0,
             SV.str (List.getD notes (Int.toNat (↑i : Int)) ByteArray.empty),
             SV.bool
              !sEq
               (match (gEmptied s ao_1 cap_1).2 with
               | some x => x
               | none => ByteArray.mk #[])
               (List.getD notes (Int.toNat (↑i : Int)) ByteArray.empty),
             SV.bool false, SV.raw (u 140), SV.raw (u 141), SV.raw (u 142), SV.raw (u 143), SV.raw (u 144), SV.raw (u 145),
             SV.raw (u 146)]
            [Ent.mk (Loc.sl ao cap) (SObj.roL 1 encU8 bs (0 : Int)), pkA b grpE (gEmptied s ao_1 cap_1).1,
             Ent.mk (Loc.sl (some (Addr.mk d 0 (@none Nat))) 8) (SObj.vecL (86 : TypeId) 1 encB done false),
             Ent.mk (Loc.sl an cn) (SObj.vecL (9 : TypeId) 1 encS notes ByteArray.empty)])
| false =>
 true = true ∧
  b = b ∧
   ∃ (h : Grp = Grp),
    AdtIs (fun (s : Grp) (b : Nat) ↦ packs (grpE s b)) grpE ∧
     ∀ (ao_1 : Option Addr) (cap_1 : Nat),
      N
       [Ent.mk (Loc.sl ao cap) (SObj.roL 1 encU8 bs (0 : Int)), pkA b grpE (gEmptied s ao_1 cap_1).1,
        Ent.mk (Loc.sl (some (Addr.mk d 0 (@none Nat))) 8) (SObj.vecL (86 : TypeId) 1 encB done false),
        Ent.mk (Loc.sl an cn) (SObj.vecL (9 : TypeId) 1 encS notes ByteArray.empty)]
       (SV.bool !Option.isSome (gEmptied s ao_1 cap_1).2)) := by kernel_rfl
end Go.Proofs.Ytjnkfgigpapeaaa
