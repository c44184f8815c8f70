import Derived.Test.YtihajdkipkfiiaaPrcT
import Derived.Test.YtihajdkipkfiiaaTab
namespace Go.Proofs.Ytihajdkipkfiiaa
set_option linter.unusedVariables false
open Go Go.RowKit
set_option maxHeartbeats 0
set_option maxRecDepth 100000
set_option maxRecDepth 100000

theorem rm_start (K : List Frm → Sy → Prop) (N : List Ent → SV → Prop) (a0 a1 : Int) : (run Try.prog ptTk false [] K (retP Try.prog Try.f5.results.toList N) 1500 [.code (bodyOf Try.f5)] ⟨padTo 137 [.int .u8 a0, .int .u8 a1], []⟩) = (
true = true ∧
 (70 : Int) ≠ (0 : Int) ∧
  true = true ∧
   ∀ (b bm bp : Nat),
    K (frm [] (bodyOf Try.f5) [1, 1, 1, 1, 1, 0, 1, 0] [])
     (Sy.mk
      [SV.int IntKind.u8 a0, SV.int IntKind.u8 a1, SV.raw (Value.tuple #[]), SV.raw (Value.tuple #[]), SV.bool false, SV.int IntKind.i64 (IntKind.wrap IntKind.i64 (Int.tmod a0 (70 : Int))),
       SV.ptr 0 b 0, SV.int IntKind.i64 (mnI (IntKind.wrap IntKind.i64 (Int.tmod a0 (70 : Int))) (64 : Int)), SV.int IntKind.i64 (0 : Int), SV.raw (Value.tuple #[]),
       SV.raw (Value.tuple #[]), SV.raw (Value.tuple #[]), SV.raw (Value.tuple #[]), SV.raw (Value.tuple #[]), SV.raw (Value.tuple #[]), SV.raw (Value.tuple #[]), SV.raw (Value.tuple #[]),
       SV.raw (Value.tuple #[]), SV.raw (Value.tuple #[]), SV.raw (Value.tuple #[]), SV.raw (Value.tuple #[]), SV.raw (Value.tuple #[]), SV.raw (Value.tuple #[]), SV.bool true, SV.bool false,
       SV.int IntKind.u8 a0, SV.int IntKind.u8 (Int.tmod a0 (70 : Int)), SV.int IntKind.i64 (IntKind.wrap IntKind.i64 (Int.tmod a0 (70 : Int))),
       SV.int IntKind.i64 (IntKind.wrap IntKind.i64 (Int.tmod a0 (70 : Int))), SV.ptr 0 b 0, SV.int IntKind.i64 (IntKind.wrap IntKind.i64 (Int.tmod a0 (70 : Int))),
       SV.int IntKind.i64 (mnI (IntKind.wrap IntKind.i64 (Int.tmod a0 (70 : Int))) (64 : Int)), SV.raw (Value.tuple #[]), SV.raw (Value.tuple #[]), SV.raw (Value.tuple #[]),
       SV.raw (Value.tuple #[]), SV.raw (Value.tuple #[]), SV.raw (Value.tuple #[]), SV.raw (Value.tuple #[]), SV.raw (Value.tuple #[]), SV.raw (Value.tuple #[]), SV.raw (Value.tuple #[]),
       SV.raw (Value.tuple #[]), SV.raw (Value.tuple #[]), SV.raw (Value.tuple #[]), SV.raw (Value.tuple #[]), SV.raw (Value.tuple #[]), SV.raw (Value.tuple #[]), SV.raw (Value.tuple #[]),
       SV.raw (Value.tuple #[]), SV.raw (Value.tuple #[]), SV.raw (Value.tuple #[]), SV.raw (Value.tuple #[]), SV.raw (Value.tuple #[]), SV.raw (Value.tuple #[]), SV.raw (Value.tuple #[]),
       SV.raw (Value.tuple #[]), SV.raw (Value.tuple #[]), SV.raw (Value.tuple #[]), SV.raw (Value.tuple #[]), SV.raw (Value.tuple #[]), SV.raw (Value.tuple #[]), SV.raw (Value.tuple #[]),
       SV.raw (Value.tuple #[]), SV.raw (Value.tuple #[]), SV.raw (Value.tuple #[]), SV.raw (Value.tuple #[]), SV.raw (Value.tuple #[]), SV.raw (Value.tuple #[]), SV.raw (Value.tuple #[]),
       SV.raw (Value.tuple #[]), SV.raw (Value.tuple #[]), SV.raw (Value.tuple #[]), SV.raw (Value.tuple #[]), SV.raw (Value.tuple #[]), SV.raw (Value.tuple #[]), SV.raw (Value.tuple #[]),
       SV.raw (Value.tuple #[]), SV.raw (Value.tuple #[]), SV.raw (Value.tuple #[]), SV.raw (Value.tuple #[]), SV.raw (Value.tuple #[]), SV.raw (Value.tuple #[]), SV.raw (Value.tuple #[]),
       SV.raw (Value.tuple #[]), SV.raw (Value.tuple #[]), SV.raw (Value.tuple #[]), SV.raw (Value.tuple #[]), SV.raw (Value.tuple #[]), SV.raw (Value.tuple #[]), SV.raw (Value.tuple #[]),
       SV.raw (Value.tuple #[]), SV.raw (Value.tuple #[]), SV.raw (Value.tuple #[]), SV.raw (Value.tuple #[]), SV.raw (Value.tuple #[]), SV.raw (Value.tuple #[]), SV.raw (Value.tuple #[]),
       SV.raw (Value.tuple #[]), SV.raw (Value.tuple #[]), SV.raw (Value.tuple #[]), SV.raw (Value.tuple #[]), SV.raw (Value.tuple #[]), SV.raw (Value.tuple #[]), SV.raw (Value.tuple #[]),
       SV.raw (Value.tuple #[]), SV.raw (Value.tuple #[]), SV.raw (Value.tuple #[]), SV.raw (Value.tuple #[]), SV.raw (Value.tuple #[]), SV.raw (Value.tuple #[]), SV.raw (Value.tuple #[]),
       SV.raw (Value.tuple #[]), SV.raw (Value.tuple #[]), SV.raw (Value.tuple #[]), SV.raw (Value.tuple #[]), SV.raw (Value.tuple #[]), SV.raw (Value.tuple #[]), SV.raw (Value.tuple #[]),
       SV.raw (Value.tuple #[]), SV.raw (Value.tuple #[]), SV.raw (Value.tuple #[]), SV.raw (Value.tuple #[]), SV.raw (Value.tuple #[]), SV.raw (Value.tuple #[]), SV.raw (Value.tuple #[]),
       SV.raw (Value.tuple #[]), SV.raw (Value.tuple #[]), SV.raw (Value.tuple #[]), SV.raw (Value.tuple #[]), SV.raw (Value.tuple #[]), SV.raw (Value.tuple #[]), SV.raw (Value.tuple #[]),
       SV.raw (Value.tuple #[]), SV.raw (Value.tuple #[]), SV.raw (Value.tuple #[]), SV.raw (Value.tuple #[])]
      [pkA b ptE (pNew (IntKind.wrap IntKind.i64 (Int.tmod a0 (70 : Int))) bm bp)])) := by kernel_rfl


theorem rm_l1 (K : List Frm → Sy → Prop) (N : List Ent → SV → Prop) (J : Act → World → Prop) (a1 n k : Int) (b : Nat) (s : PT) (i : Int) (u : Nat → Value) : (run Try.prog ptTk false [] K (retP Try.prog Try.f5.results.toList N) 1500 (frm [J] (bodyOf Try.f5) [1, 1, 1, 1, 1, 0, 1, 0, 0] []) ⟨mkT u 137 0 [(1, .int .u8 a1), (5, .int .i64 n), (6, .ptr 0 b 0), (7, .int .i64 k), (8, .int .i64 i)], [pkA b ptE s]⟩) = (
match decide (i < k) with
| true =>
 true = true ∧
  b = b ∧
   ∃ (h : PT = PT),
    AdtIs (fun (s : PT) (b : Nat) ↦ packs (ptE s b)) ptE ∧
     pOk s ∧
      ∀ (nb : Nat),
       match (pSpawn s (1 : Int) (ByteArray.mk #[(103 : UInt8)]) (ByteArray.mk #[(99 : UInt8)]) nb).2.2 != (0 : Int) with
       | true => N [pkA b ptE (pSpawn s (1 : Int) (ByteArray.mk #[(103 : UInt8)]) (ByteArray.mk #[(99 : UInt8)]) nb).1] (SV.bool false)
       | false =>
        match (pSpawn s (1 : Int) (ByteArray.mk #[(103 : UInt8)]) (ByteArray.mk #[(99 : UInt8)]) nb).2.1 != IntKind.wrap IntKind.i64 (i + (2 : Int)) with
        | true => N [pkA b ptE (pSpawn s (1 : Int) (ByteArray.mk #[(103 : UInt8)]) (ByteArray.mk #[(99 : UInt8)]) nb).1] (SV.bool false)
        | false =>
         K (Frm.loop J :: Frm.blk 0 :: frm [] (bodyOf Try.f5) [1, 1, 1, 1, 1, 1] [])
          (Sy.mk
           [SV.raw (u 0), SV.int IntKind.u8 a1, SV.raw (u 2), SV.raw (u 3), SV.raw (u 4), SV.int IntKind.i64 n, SV.ptr 0 b 0,
            SV.int IntKind.i64 k, SV.int IntKind.i64 (IntKind.wrap IntKind.i64 (i + (1 : Int))),
            SV.int IntKind.i64 (pSpawn s (1 : Int) (ByteArray.mk #[(103 : UInt8)]) (ByteArray.mk #[(99 : UInt8)]) nb).2.1,
            SV.int IntKind.i64 (pSpawn s (1 : Int) (ByteArray.mk #[(103 : UInt8)]) (ByteArray.mk #[(99 : UInt8)]) nb).2.2, SV.raw (u 11), SV.raw (u 12),
            SV.raw (u 13), SV.raw (u 14), SV.raw (u 15), SV.raw (u 16), SV.raw (u 17), SV.raw (u 18), SV.raw (u 19),
            SV.raw (u 20), SV.raw (u 21), SV.raw (u 22), SV.raw (u 23), SV.raw (u 24), SV.raw (u 25), SV.raw (u 26),
            SV.raw (u 27), SV.raw (u 28), SV.raw (u 29), SV.raw (u 30), SV.raw (u 31), SV.int IntKind.i64 i, SV.int IntKind.i64 k, SV.bool true,
            SV.int IntKind.i64 i, SV.int IntKind.i64 (IntKind.wrap IntKind.i64 (i + (1 : Int))),
            SV.tuple
             [SV.int IntKind.i64 (pSpawn s (1 : Int) (ByteArray.mk #[(103 : UInt8)]) (ByteArray.mk #[(99 : UInt8)]) nb).2.1,
              SV.int IntKind.i64 (pSpawn s (1 : Int) (ByteArray.mk #[(103 : UInt8)]) (ByteArray.mk #[(99 : UInt8)]) nb).2.2],
            SV.ptr 0 b 0,
            SV.tuple
             [SV.int IntKind.i64 (pSpawn s (1 : Int) (ByteArray.mk #[(103 : UInt8)]) (ByteArray.mk #[(99 : UInt8)]) nb).2.1,
              SV.int IntKind.i64 (pSpawn s (1 : Int) (ByteArray.mk #[(103 : UInt8)]) (ByteArray.mk #[(99 : UInt8)]) nb).2.2],
            SV.int IntKind.i64 (pSpawn s (1 : Int) (ByteArray.mk #[(103 : UInt8)]) (ByteArray.mk #[(99 : UInt8)]) nb).2.1,
            SV.int IntKind.i64 (pSpawn s (1 : Int) (ByteArray.mk #[(103 : UInt8)]) (ByteArray.mk #[(99 : UInt8)]) nb).2.2,
            SV.int IntKind.i64 (pSpawn s (1 : Int) (ByteArray.mk #[(103 : UInt8)]) (ByteArray.mk #[(99 : UInt8)]) nb).2.2,
            SV.bool ((pSpawn s (1 : Int) (ByteArray.mk #[(103 : UInt8)]) (ByteArray.mk #[(99 : UInt8)]) nb).2.2 != (0 : Int)), SV.bool false,
            SV.int IntKind.i64 (pSpawn s (1 : Int) (ByteArray.mk #[(103 : UInt8)]) (ByteArray.mk #[(99 : UInt8)]) nb).2.1, SV.int IntKind.i64 i,
            SV.int IntKind.i64 (IntKind.wrap IntKind.i64 (i + (2 : Int))),
            SV.bool ((pSpawn s (1 : Int) (ByteArray.mk #[(103 : UInt8)]) (ByteArray.mk #[(99 : UInt8)]) nb).2.1 != IntKind.wrap IntKind.i64 (i + (2 : Int))), SV.bool false,
            SV.raw (u 50), SV.raw (u 51), SV.raw (u 52), SV.raw (u 53), SV.raw (u 54), SV.raw (u 55), SV.raw (u 56),
            SV.raw (u 57), SV.raw (u 58), SV.raw (u 59), SV.raw (u 60), SV.raw (u 61), SV.raw (u 62), SV.raw (u 63),
            SV.raw (u 64), SV.raw (u 65), SV.raw (u 66), SV.raw (u 67), SV.raw (u 68), SV.raw (u 69), SV.raw (u 70),
            SV.raw (u 71), SV.raw (u 72), SV.raw (u 73), SV.raw (u 74), SV.raw (u 75), SV.raw (u 76), SV.raw (u 77),
            SV.raw (u 78), SV.raw (u 79), SV.raw (u 80), SV.raw (u 81), SV.raw (u 82), SV.raw (u 83), SV.raw (u 84),
            SV.raw (u 85), SV.raw (u 86), SV.raw (u 87), SV.raw (u 88), SV.raw (u 89), SV.raw (u 90), SV.raw (u 91),
            SV.raw (u 92), SV.raw (u 93), SV.raw (u 94), SV.raw (u 95), SV.raw (u 96), SV.raw (u 97), SV.raw (u 98),
            SV.raw (u 99), SV.raw (u 100), SV.raw (u 101), SV.raw (u 102), SV.raw (u 103), SV.raw (u 104), SV.raw (u 105),
            SV.raw (u 106), SV.raw (u 107), SV.raw (u 108), SV.raw (u 109), SV.raw (u 110), SV.raw (u 111), SV.raw (u 112),
            SV.raw (u 113), SV.raw (u 114), SV.raw (u 115), SV.raw (u 116), SV.raw (u 117), SV.raw (u 118), SV.raw (u 119),
            SV.raw (u 120), SV.raw (u 121), SV.raw (u 122), SV.raw (u 123), SV.raw (u 124), SV.raw (u 125), SV.raw (u 126),
            SV.raw (u 127), SV.raw (u 128), SV.raw (u 129), SV.raw (u 130), SV.raw (u 131), SV.raw (u 132), SV.raw (u 133),
            SV.raw (u 134), SV.raw (u 135), SV.raw (u 136)]
           [pkA b ptE (pSpawn s (1 : Int) (ByteArray.mk #[(103 : UInt8)]) (ByteArray.mk #[(99 : UInt8)]) nb).1])
| false =>
 true = true ∧
  b = b ∧
   ∃ (h : PT = PT),
    AdtIs (fun (s : PT) (b : Nat) ↦ packs (ptE s b)) ptE ∧
     pOk s ∧
      ∀ (nb : Nat),
       match (pSpawn s (1 : Int) (ByteArray.mk #[(103 : UInt8)]) (ByteArray.mk #[(99 : UInt8)]) nb).2.2 != (81 : Int) with
       | true => N [pkA b ptE (pSpawn s (1 : Int) (ByteArray.mk #[(103 : UInt8)]) (ByteArray.mk #[(99 : UInt8)]) nb).1] (SV.bool false)
       | false =>
        true = true ∧
         b = b ∧
          ∃ (h : PT = PT),
           AdtIs (fun (s : PT) (b : Nat) ↦ packs (ptE s b)) ptE ∧
            pOk (pSpawn s (1 : Int) (ByteArray.mk #[(103 : UInt8)]) (ByteArray.mk #[(99 : UInt8)]) nb).1 ∧
             match (↑(List.length (pSpawn s (1 : Int) (ByteArray.mk #[(103 : UInt8)]) (ByteArray.mk #[(99 : UInt8)]) nb).1.2) : Int) - (1 : Int) != k with
             | true => N [pkA b ptE (pSpawn s (1 : Int) (ByteArray.mk #[(103 : UInt8)]) (ByteArray.mk #[(99 : UInt8)]) nb).1] (SV.bool false)
             | false =>
              K (frm [] (bodyOf Try.f5) [1, 1, 1, 1, 1, 1, 1, 1, 1, 0, 1, 0] [])
               (Sy.mk
                [SV.raw (u 0), SV.int IntKind.u8 a1, SV.raw (u 2), SV.raw (u 3), SV.raw (u 4), SV.int IntKind.i64 n, SV.ptr 0 b 0,
                 SV.int IntKind.i64 k, SV.int IntKind.i64 i, SV.raw (u 9), SV.raw (u 10),
                 SV.int IntKind.i64 (pSpawn s (1 : Int) (ByteArray.mk #[(103 : UInt8)]) (ByteArray.mk #[(99 : UInt8)]) nb).2.1,
                 SV.int IntKind.i64 (pSpawn s (1 : Int) (ByteArray.mk #[(103 : UInt8)]) (ByteArray.mk #[(99 : UInt8)]) nb).2.2,
                 SV.int IntKind.i64 (IntKind.wrap IntKind.i64 (k + (1 : Int))), SV.int IntKind.i64 (0 : Int), SV.raw (u 15), SV.raw (u 16), SV.raw (u 17),
                 SV.raw (u 18), SV.raw (u 19), SV.raw (u 20), SV.raw (u 21), SV.raw (u 22), SV.raw (u 23), SV.raw (u 24),
                 SV.raw (u 25), SV.raw (u 26), SV.raw (u 27), SV.raw (u 28), SV.raw (u 29), SV.raw (u 30), SV.raw (u 31),
                 SV.int IntKind.i64 i, SV.int IntKind.i64 k, SV.bool false, SV.raw (u 35), SV.raw (u 36), SV.raw (u 37), SV.raw (u 38),
                 SV.raw (u 39), SV.raw (u 40), SV.raw (u 41), SV.raw (u 42), SV.raw (u 43), SV.raw (u 44), SV.raw (u 45),
                 SV.raw (u 46), SV.raw (u 47), SV.raw (u 48), SV.raw (u 49),
                 SV.tuple
                  [SV.int IntKind.i64 (pSpawn s (1 : Int) (ByteArray.mk #[(103 : UInt8)]) (ByteArray.mk #[(99 : UInt8)]) nb).2.1,
                   SV.int IntKind.i64 (pSpawn s (1 : Int) (ByteArray.mk #[(103 : UInt8)]) (ByteArray.mk #[(99 : UInt8)]) nb).2.2],
                 SV.ptr 0 b 0,
                 SV.tuple
                  [SV.int IntKind.i64 (pSpawn s (1 : Int) (ByteArray.mk #[(103 : UInt8)]) (ByteArray.mk #[(99 : UInt8)]) nb).2.1,
                   SV.int IntKind.i64 (pSpawn s (1 : Int) (ByteArray.mk #[(103 : UInt8)]) (ByteArray.mk #[(99 : UInt8)]) nb).2.2],
                 SV.int IntKind.i64 (pSpawn s (1 : Int) (ByteArray.mk #[(103 : UInt8)]) (ByteArray.mk #[(99 : UInt8)]) nb).2.1,
                 SV.int IntKind.i64 (pSpawn s (1 : Int) (ByteArray.mk #[(103 : UInt8)]) (ByteArray.mk #[(99 : UInt8)]) nb).2.2,
                 SV.int IntKind.i64 (pSpawn s (1 : Int) (ByteArray.mk #[(103 : UInt8)]) (ByteArray.mk #[(99 : UInt8)]) nb).2.2,
                 SV.bool ((pSpawn s (1 : Int) (ByteArray.mk #[(103 : UInt8)]) (ByteArray.mk #[(99 : UInt8)]) nb).2.2 != (81 : Int)), SV.bool false, SV.ptr 0 b 0,
                 SV.int IntKind.i64 ((↑(List.length (pSpawn s (1 : Int) (ByteArray.mk #[(103 : UInt8)]) (ByteArray.mk #[(99 : UInt8)]) nb).1.2) : Int) - (1 : Int)),
                 SV.int IntKind.i64 k, SV.bool ((↑(List.length (pSpawn s (1 : Int) (ByteArray.mk #[(103 : UInt8)]) (ByteArray.mk #[(99 : UInt8)]) nb).1.2) : Int) - (1 : Int) != k),
                 SV.bool false, SV.int IntKind.i64 k, SV.int IntKind.i64 (IntKind.wrap IntKind.i64 (k + (1 : Int))), SV.raw (u 65), SV.raw (u 66),
                 SV.raw (u 67), SV.raw (u 68), SV.raw (u 69), SV.raw (u 70), SV.raw (u 71), SV.raw (u 72), SV.raw (u 73),
                 SV.raw (u 74), SV.raw (u 75), SV.raw (u 76), SV.raw (u 77), SV.raw (u 78), SV.raw (u 79), SV.raw (u 80),
                 SV.raw (u 81), SV.raw (u 82), SV.raw (u 83), SV.raw (u 84), SV.raw (u 85), SV.raw (u 86), SV.raw (u 87),
                 SV.raw (u 88), SV.raw (u 89), SV.raw (u 90), SV.raw (u 91), SV.raw (u 92), SV.raw (u 93), SV.raw (u 94),
                 SV.raw (u 95), SV.raw (u 96), SV.raw (u 97), SV.raw (u 98), SV.raw (u 99), SV.raw (u 100), SV.raw (u 101),
                 SV.raw (u 102), SV.raw (u 103), SV.raw (u 104), SV.raw (u 105), SV.raw (u 106), SV.raw (u 107),
                 SV.raw (u 108), SV.raw (u 109), SV.raw (u 110), SV.raw (u 111), SV.raw (u 112), SV.raw (u 113),
                 SV.raw (u 114), SV.raw (u 115), SV.raw (u 116), SV.raw (u 117), SV.raw (u 118), SV.raw (u 119),
                 SV.raw (u 120), SV.raw (u 121), SV.raw (u 122), SV.raw (u 123), SV.raw (u 124), SV.raw (u 125),
                 SV.raw (u 126), SV.raw (u 127), SV.raw (u 128), SV.raw (u 129), SV.raw (u 130), SV.raw (u 131),
                 SV.raw (u 132), SV.raw (u 133), SV.raw (u 134), SV.raw (u 135), SV.raw (u 136)]
                [pkA b ptE (pSpawn s (1 : Int) (ByteArray.mk #[(103 : UInt8)]) (ByteArray.mk #[(99 : UInt8)]) nb).1])) := by kernel_rfl


theorem rm_l2 (K : List Frm → Sy → Prop) (N : List Ent → SV → Prop) (J : Act → World → Prop) (a1 n k last : Int) (b : Nat) (s : PT) (i : Int) (u : Nat → Value) : (run Try.prog ptTk false [] K (retP Try.prog Try.f5.results.toList N) 1500 (frm [J] (bodyOf Try.f5) [1, 1, 1, 1, 1, 1, 1, 1, 1, 0, 1, 0, 0] []) ⟨mkT u 137 0 [(1, .int .u8 a1), (5, .int .i64 n), (6, .ptr 0 b 0), (7, .int .i64 k), (13, .int .i64 last), (14, .int .i64 i)], [pkA b ptE s]⟩) = (
(20 : Int) ≠ (0 : Int) ∧
 match decide (i < IntKind.wrap IntKind.i64 (Int.tmod a1 (20 : Int))) with
 | true =>
  match decide (k > (0 : Int)) with
  | true =>
   true = true ∧
    b = b ∧
     ∃ (h : PT = PT),
      AdtIs (fun (s : PT) (b : Nat) ↦ packs (ptE s b)) ptE ∧
       (pOk (cast h s) ∧ List.length s.2 ≤ 200) ∧
        ∀ (ao : Option Addr) (cap : Nat),
         IntKind.wrap IntKind.i64 ((↑(List.length (upto (0 : Int) (List.map (fun (x : Nat × PR) ↦ x.snd) s.2))) : Int) - (1 : Int)) ≠ (0 : Int) ∧
          (ao = ao ∧
           cap = cap ∧
            List.length (upto (0 : Int) (List.map (fun (x : Nat × PR) ↦ x.snd) s.2)) = List.length (upto (0 : Int) (List.map (fun (x : Nat × PR) ↦ x.snd) s.2)) ∧
             (0 : Int) ≤
              IntKind.wrap IntKind.i64
               ((1 : Int) + Int.tmod i (IntKind.wrap IntKind.i64 ((↑(List.length (upto (0 : Int) (List.map (fun (x : Nat × PR) ↦ x.snd) s.2))) : Int) - (1 : Int)))) ∧
              IntKind.wrap IntKind.i64
               ((1 : Int) + Int.tmod i (IntKind.wrap IntKind.i64 ((↑(List.length (upto (0 : Int) (List.map (fun (x : Nat × PR) ↦ x.snd) s.2))) : Int) - (1 : Int)))) <
               (↑(List.length (upto (0 : Int) (List.map (fun (x : Nat × PR) ↦ x.snd) s.2))) : Int)) ∧
           (Addr.blkD ao = Addr.blkD ao ∧
            Addr.offD ao = Addr.offD ao ∧
             6 = 6 ∧
              Int.toNat
               (IntKind.wrap IntKind.i64
                ((1 : Int) + Int.tmod i (IntKind.wrap IntKind.i64 ((↑(List.length (upto (0 : Int) (List.map (fun (x : Nat × PR) ↦ x.snd) s.2))) : Int) - (1 : Int))))) <
               List.length (upto (0 : Int) (List.map (fun (x : Nat × PR) ↦ x.snd) s.2))) ∧
            true = true ∧
             b = b ∧
              ∃ (h : PT = PT),
               AdtIs (fun (s : PT) (b : Nat) ↦ packs (ptE s b)) ptE ∧
                pOk s ∧
                 match
                  (pExit s
                   (List.getD (upto (0 : Int) (List.map (fun (x : Nat × PR) ↦ x.snd) s.2))
                    (Int.toNat
                     (IntKind.wrap IntKind.i64
                      ((1 : Int) +
                       Int.tmod i (IntKind.wrap IntKind.i64 ((↑(List.length (upto (0 : Int) (List.map (fun (x : Nat × PR) ↦ x.snd) s.2))) : Int) - (1 : Int))))))
                    (PR.mk (0 : Int) (0 : Int) (ByteArray.mk #[]) false (0 : Int) (ByteArray.mk #[]) false false)).1
                   i).2 !=
                   (0 : Int) with
                 | true =>
                  N
                   [pkA b ptE
                    (pExit s
                     (List.getD (upto (0 : Int) (List.map (fun (x : Nat × PR) ↦ x.snd) s.2))
                      (Int.toNat
                       (IntKind.wrap IntKind.i64
                        ((1 : Int) +
                         Int.tmod i (IntKind.wrap IntKind.i64 ((↑(List.length (upto (0 : Int) (List.map (fun (x : Nat × PR) ↦ x.snd) s.2))) : Int) - (1 : Int))))))
                      (PR.mk (0 : Int) (0 : Int) (ByteArray.mk #[]) false (0 : Int) (ByteArray.mk #[]) false false)).1
                     i).1,
                    Ent.mk (Loc.sl ao cap)
                     (SObj.vecL (45 : TypeId) 6 encP6 (upto (0 : Int) (List.map (fun (x : Nat × PR) ↦ x.snd) s.2))
                      (PR.mk (0 : Int) (0 : Int) (ByteArray.mk #[]) false (0 : Int) (ByteArray.mk #[]) false false))]
                   (SV.bool false)
                 | false =>
                  true = true ∧
                   b = b ∧
                    ∃ (h : PT = PT),
                     AdtIs (fun (s : PT) (b : Nat) ↦ packs (ptE s b)) ptE ∧
                      pOk
                       (pExit s
                        (List.getD (upto (0 : Int) (List.map (fun (x : Nat × PR) ↦ x.snd) s.2))
                         (Int.toNat
                          (IntKind.wrap IntKind.i64
                           ((1 : Int) +
                            Int.tmod i (IntKind.wrap IntKind.i64 ((↑(List.length (upto (0 : Int) (List.map (fun (x : Nat × PR) ↦ x.snd) s.2))) : Int) - (1 : Int))))))
                         (PR.mk (0 : Int) (0 : Int) (ByteArray.mk #[]) false (0 : Int) (ByteArray.mk #[]) false false)).1
                        i).1 ∧
                       ∀ (nb : Nat),
                        true = true ∧
                         b = b ∧
                          ∃ (h : PT = PT),
                           AdtIs (fun (s : PT) (b : Nat) ↦ packs (ptE s b)) ptE ∧
                            pOk
                             (pSpawn
                              (pExit s
                               (List.getD (upto (0 : Int) (List.map (fun (x : Nat × PR) ↦ x.snd) s.2))
                                (Int.toNat
                                 (IntKind.wrap IntKind.i64
                                  ((1 : Int) +
                                   Int.tmod i
                                    (IntKind.wrap IntKind.i64
                                     ((↑(List.length (upto (0 : Int) (List.map (fun (x : Nat × PR) ↦ x.snd) s.2))) : Int) - (1 : Int))))))
                                (PR.mk (0 : Int) (0 : Int) (ByteArray.mk #[]) false (0 : Int) (ByteArray.mk #[]) false false)).1
                               i).1
                              (1 : Int) (ByteArray.mk #[(103 : UInt8)]) (ByteArray.mk #[(99 : UInt8)]) nb).1 ∧
                             ∀ (b_1 : Nat),
                              (b_1 = b_1 ∧ true = true ∧ 6 = 6 ∧ 6 ≤ 6) ∧
                               true = true ∧
                                b = b ∧
                                 ∃ (h : PT = PT),
                                  AdtIs (fun (s : PT) (b : Nat) ↦ packs (ptE s b)) ptE ∧
                                   pOk
                                    (pReap
                                     (pSpawn
                                      (pExit s
                                       (List.getD (upto (0 : Int) (List.map (fun (x : Nat × PR) ↦ x.snd) s.2))
                                        (Int.toNat
                                         (IntKind.wrap IntKind.i64
                                          ((1 : Int) +
                                           Int.tmod i
                                            (IntKind.wrap IntKind.i64
                                             ((↑(List.length (upto (0 : Int) (List.map (fun (x : Nat × PR) ↦ x.snd) s.2))) : Int) -
                                              (1 : Int))))))
                                        (PR.mk (0 : Int) (0 : Int) (ByteArray.mk #[]) false (0 : Int) (ByteArray.mk #[]) false false)).1
                                       i).1
                                      (1 : Int) (ByteArray.mk #[(103 : UInt8)]) (ByteArray.mk #[(99 : UInt8)]) nb).1
                                     (1 : Int)).1 ∧
                                    ∀ (nb_1 : Nat),
                                     match
                                      (pSpawn
                                       (pExit s
                                        (List.getD (upto (0 : Int) (List.map (fun (x : Nat × PR) ↦ x.snd) s.2))
                                         (Int.toNat
                                          (IntKind.wrap IntKind.i64
                                           ((1 : Int) +
                                            Int.tmod i
                                             (IntKind.wrap IntKind.i64
                                              ((↑(List.length (upto (0 : Int) (List.map (fun (x : Nat × PR) ↦ x.snd) s.2))) : Int) -
                                               (1 : Int))))))
                                         (PR.mk (0 : Int) (0 : Int) (ByteArray.mk #[]) false (0 : Int) (ByteArray.mk #[]) false false)).1
                                        i).1
                                       (1 : Int) (ByteArray.mk #[(103 : UInt8)]) (ByteArray.mk #[(99 : UInt8)]) nb).2.2 !=
                                       (81 : Int) with
                                     | true =>
                                      N
                                       [pkA b ptE
                                        (pSpawn
                                         (pReap
                                          (pSpawn
                                           (pExit s
                                            (List.getD (upto (0 : Int) (List.map (fun (x : Nat × PR) ↦ x.snd) s.2))
                                             (Int.toNat
                                              (IntKind.wrap IntKind.i64
                                               ((1 : Int) +
                                                Int.tmod i
                                                 (IntKind.wrap IntKind.i64
                                                  ((↑(List.length (upto (0 : Int) (List.map (fun (x : Nat × PR) ↦ x.snd) s.2))) : Int) -
                                                   (1 : Int))))))
                                             (PR.mk (0 : Int) (0 : Int) (ByteArray.mk #[]) false (0 : Int) (ByteArray.mk #[]) false false)).1
                                            i).1
                                           (1 : Int) (ByteArray.mk #[(103 : UInt8)]) (ByteArray.mk #[(99 : UInt8)]) nb).1
                                          (1 : Int)).1
                                         (1 : Int) (ByteArray.mk #[(103 : UInt8)]) (ByteArray.mk #[(99 : UInt8)]) nb_1).1,
                                        Ent.mk (Loc.sl ao cap)
                                         (SObj.vecL (45 : TypeId) 6 encP6 (upto (0 : Int) (List.map (fun (x : Nat × PR) ↦ x.snd) s.2))
                                          (PR.mk (0 : Int) (0 : Int) (ByteArray.mk #[]) false (0 : Int) (ByteArray.mk #[]) false false)),
                                        Ent.mk (Loc.blk b_1)
                                         (SObj.cells
                                          [SV.int IntKind.i64
                                           (pReap
                                            (pSpawn
                                             (pExit s
                                              (List.getD (upto (0 : Int) (List.map (fun (x : Nat × PR) ↦ x.snd) s.2))
                                               (Int.toNat
                                                (IntKind.wrap IntKind.i64
                                                 ((1 : Int) +
                                                  Int.tmod i
                                                   (IntKind.wrap IntKind.i64
                                                    ((↑(List.length (upto (0 : Int) (List.map (fun (x : Nat × PR) ↦ x.snd) s.2))) :
                                                     Int) -
                                                     (1 : Int))))))
                                               (PR.mk (0 : Int) (0 : Int) (ByteArray.mk #[]) false (0 : Int) (ByteArray.mk #[]) false
                                                false)).1
                                              i).1
                                             (1 : Int) (ByteArray.mk #[(103 : UInt8)]) (ByteArray.mk #[(99 : UInt8)]) nb).1
                                            (1 : Int)).2.1.1,
                                           SV.int IntKind.i64
                                            (pReap
                                             (pSpawn
                                              (pExit s
                                               (List.getD (upto (0 : Int) (List.map (fun (x : Nat × PR) ↦ x.snd) s.2))
                                                (Int.toNat
                                                 (IntKind.wrap IntKind.i64
                                                  ((1 : Int) +
                                                   Int.tmod i
                                                    (IntKind.wrap IntKind.i64
                                                     ((↑(List.length (upto (0 : Int) (List.map (fun (x : Nat × PR) ↦ x.snd) s.2))) :
                                                      Int) -
                                                      (1 : Int))))))
                                                (PR.mk (0 : Int) (0 : Int) (ByteArray.mk #[]) false (0 : Int) (ByteArray.mk #[]) false
                                                 false)).1
                                               i).1
                                              (1 : Int) (ByteArray.mk #[(103 : UInt8)]) (ByteArray.mk #[(99 : UInt8)]) nb).1
                                             (1 : Int)).2.1.2,
                                           SV.str
                                            (pReap
                                             (pSpawn
                                              (pExit s
                                               (List.getD (upto (0 : Int) (List.map (fun (x : Nat × PR) ↦ x.snd) s.2))
                                                (Int.toNat
                                                 (IntKind.wrap IntKind.i64
                                                  ((1 : Int) +
                                                   Int.tmod i
                                                    (IntKind.wrap IntKind.i64
                                                     ((↑(List.length (upto (0 : Int) (List.map (fun (x : Nat × PR) ↦ x.snd) s.2))) :
                                                      Int) -
                                                      (1 : Int))))))
                                                (PR.mk (0 : Int) (0 : Int) (ByteArray.mk #[]) false (0 : Int) (ByteArray.mk #[]) false
                                                 false)).1
                                               i).1
                                              (1 : Int) (ByteArray.mk #[(103 : UInt8)]) (ByteArray.mk #[(99 : UInt8)]) nb).1
                                             (1 : Int)).2.1.3,
                                           SV.bool
                                            (pReap
                                             (pSpawn
                                              (pExit s
                                               (List.getD (upto (0 : Int) (List.map (fun (x : Nat × PR) ↦ x.snd) s.2))
                                                (Int.toNat
                                                 (IntKind.wrap IntKind.i64
                                                  ((1 : Int) +
                                                   Int.tmod i
                                                    (IntKind.wrap IntKind.i64
                                                     ((↑(List.length (upto (0 : Int) (List.map (fun (x : Nat × PR) ↦ x.snd) s.2))) :
                                                      Int) -
                                                      (1 : Int))))))
                                                (PR.mk (0 : Int) (0 : Int) (ByteArray.mk #[]) false (0 : Int) (ByteArray.mk #[]) false
                                                 false)).1
                                               i).1
                                              (1 : Int) (ByteArray.mk #[(103 : UInt8)]) (ByteArray.mk #[(99 : UInt8)]) nb).1
                                             (1 : Int)).2.1.4,
                                           SV.int IntKind.i64
                                            (pReap
                                             (pSpawn
                                              (pExit s
                                               (List.getD (upto (0 : Int) (List.map (fun (x : Nat × PR) ↦ x.snd) s.2))
                                                (Int.toNat
                                                 (IntKind.wrap IntKind.i64
                                                  ((1 : Int) +
                                                   Int.tmod i
                                                    (IntKind.wrap IntKind.i64
                                                     ((↑(List.length (upto (0 : Int) (List.map (fun (x : Nat × PR) ↦ x.snd) s.2))) :
                                                      Int) -
                                                      (1 : Int))))))
                                                (PR.mk (0 : Int) (0 : Int) (ByteArray.mk #[]) false (0 : Int) (ByteArray.mk #[]) false
                                                 false)).1
                                               i).1
                                              (1 : Int) (ByteArray.mk #[(103 : UInt8)]) (ByteArray.mk #[(99 : UInt8)]) nb).1
                                             (1 : Int)).2.1.5,
                                           SV.str
                                            (pReap
                                             (pSpawn
                                              (pExit s
                                               (List.getD (upto (0 : Int) (List.map (fun (x : Nat × PR) ↦ x.snd) s.2))
                                                (Int.toNat
                                                 (IntKind.wrap IntKind.i64
                                                  ((1 : Int) +
                                                   Int.tmod i
                                                    (IntKind.wrap IntKind.i64
                                                     ((↑(List.length (upto (0 : Int) (List.map (fun (x : Nat × PR) ↦ x.snd) s.2))) :
                                                      Int) -
                                                      (1 : Int))))))
                                                (PR.mk (0 : Int) (0 : Int) (ByteArray.mk #[]) false (0 : Int) (ByteArray.mk #[]) false
                                                 false)).1
                                               i).1
                                              (1 : Int) (ByteArray.mk #[(103 : UInt8)]) (ByteArray.mk #[(99 : UInt8)]) nb).1
                                             (1 : Int)).2.1.6]
                                          45)]
                                       (SV.bool false)
                                     | false =>
                                      match
                                       (pReap
                                        (pSpawn
                                         (pExit s
                                          (List.getD (upto (0 : Int) (List.map (fun (x : Nat × PR) ↦ x.snd) s.2))
                                           (Int.toNat
                                            (IntKind.wrap IntKind.i64
                                             ((1 : Int) +
                                              Int.tmod i
                                               (IntKind.wrap IntKind.i64
                                                ((↑(List.length (upto (0 : Int) (List.map (fun (x : Nat × PR) ↦ x.snd) s.2))) : Int) -
                                                 (1 : Int))))))
                                           (PR.mk (0 : Int) (0 : Int) (ByteArray.mk #[]) false (0 : Int) (ByteArray.mk #[]) false false)).1
                                          i).1
                                         (1 : Int) (ByteArray.mk #[(103 : UInt8)]) (ByteArray.mk #[(99 : UInt8)]) nb).1
                                        (1 : Int)).2.2 !=
                                        (0 : Int) with
                                      | true =>
                                       N
                                        [pkA b ptE
                                         (pSpawn
                                          (pReap
                                           (pSpawn
                                            (pExit s
                                             (List.getD (upto (0 : Int) (List.map (fun (x : Nat × PR) ↦ x.snd) s.2))
                                              (Int.toNat
                                               (IntKind.wrap IntKind.i64
                                                ((1 : Int) +
                                                 Int.tmod i
                                                  (IntKind.wrap IntKind.i64
                                                   ((↑(List.length (upto (0 : Int) (List.map (fun (x : Nat × PR) ↦ x.snd) s.2))) : Int) -
                                                    (1 : Int))))))
                                              (PR.mk (0 : Int) (0 : Int) (ByteArray.mk #[]) false (0 : Int) (ByteArray.mk #[]) false false)).1
                                             i).1
                                            (1 : Int) (ByteArray.mk #[(103 : UInt8)]) (ByteArray.mk #[(99 : UInt8)]) nb).1
                                           (1 : Int)).1
                                          (1 : Int) (ByteArray.mk #[(103 : UInt8)]) (ByteArray.mk #[(99 : UInt8)]) nb_1).1,
                                         Ent.mk (Loc.sl ao cap)
                                          (SObj.vecL (45 : TypeId) 6 encP6 (upto (0 : Int) (List.map (fun (x : Nat × PR) ↦ x.snd) s.2))
                                           (PR.mk (0 : Int) (0 : Int) (ByteArray.mk #[]) false (0 : Int) (ByteArray.mk #[]) false false)),
                                         Ent.mk (Loc.blk b_1)
                                          (SObj.cells
                                           [SV.int IntKind.i64
                                            (pReap
                                             (pSpawn
                                              (pExit s
                                               (List.getD (upto (0 : Int) (List.map (fun (x : Nat × PR) ↦ x.snd) s.2))
                                                (Int.toNat
                                                 (IntKind.wrap IntKind.i64
                                                  ((1 : Int) +
                                                   Int.tmod i
                                                    (IntKind.wrap IntKind.i64
                                                     ((↑(List.length (upto (0 : Int) (List.map (fun (x : Nat × PR) ↦ x.snd) s.2))) :
                                                      Int) -
                                                      (1 : Int))))))
                                                (PR.mk (0 : Int) (0 : Int) (ByteArray.mk #[]) false (0 : Int) (ByteArray.mk #[]) false
                                                 false)).1
                                               i).1
                                              (1 : Int) (ByteArray.mk #[(103 : UInt8)]) (ByteArray.mk #[(99 : UInt8)]) nb).1
                                             (1 : Int)).2.1.1,
                                            SV.int IntKind.i64
                                             (pReap
                                              (pSpawn
                                               (pExit s
                                                (List.getD (upto (0 : Int) (List.map (fun (x : Nat × PR) ↦ x.snd) s.2))
                                                 (Int.toNat
                                                  (IntKind.wrap IntKind.i64
                                                   ((1 : Int) +
                                                    Int.tmod i
                                                     (IntKind.wrap IntKind.i64
                                                      ((↑(List.length (upto (0 : Int) (List.map (fun (x : Nat × PR) ↦ x.snd) s.2))) :
                                                       Int) -
                                                       (1 : Int))))))
                                                 (PR.mk (0 : Int) (0 : Int) (ByteArray.mk #[]) false (0 : Int) (ByteArray.mk #[]) false
                                                  false)).1
                                                i).1
                                               (1 : Int) (ByteArray.mk #[(103 : UInt8)]) (ByteArray.mk #[(99 : UInt8)]) nb).1
                                              (1 : Int)).2.1.2,
                                            SV.str
                                             (pReap
                                              (pSpawn
                                               (pExit s
                                                (List.getD (upto (0 : Int) (List.map (fun (x : Nat × PR) ↦ x.snd) s.2))
                                                 (Int.toNat
                                                  (IntKind.wrap IntKind.i64
                                                   ((1 : Int) +
                                                    Int.tmod i
                                                     (IntKind.wrap IntKind.i64
                                                      ((↑(List.length (upto (0 : Int) (List.map (fun (x : Nat × PR) ↦ x.snd) s.2))) :
                                                       Int) -
                                                       (1 : Int))))))
                                                 (PR.mk (0 : Int) (0 : Int) (ByteArray.mk #[]) false (0 : Int) (ByteArray.mk #[]) false
                                                  false)).1
                                                i).1
                                               (1 : Int) (ByteArray.mk #[(103 : UInt8)]) (ByteArray.mk #[(99 : UInt8)]) nb).1
                                              (1 : Int)).2.1.3,
                                            SV.bool
                                             (pReap
                                              (pSpawn
                                               (pExit s
                                                (List.getD (upto (0 : Int) (List.map (fun (x : Nat × PR) ↦ x.snd) s.2))
                                                 (Int.toNat
                                                  (IntKind.wrap IntKind.i64
                                                   ((1 : Int) +
                                                    Int.tmod i
                                                     (IntKind.wrap IntKind.i64
                                                      ((↑(List.length (upto (0 : Int) (List.map (fun (x : Nat × PR) ↦ x.snd) s.2))) :
                                                       Int) -
                                                       (1 : Int))))))
                                                 (PR.mk (0 : Int) (0 : Int) (ByteArray.mk #[]) false (0 : Int) (ByteArray.mk #[]) false
                                                  false)).1
                                                i).1
                                               (1 : Int) (ByteArray.mk #[(103 : UInt8)]) (ByteArray.mk #[(99 : UInt8)]) nb).1
                                              (1 : Int)).2.1.4,
                                            SV.int IntKind.i64
                                             (pReap
                                              (pSpawn
                                               (pExit s
                                                (List.getD (upto (0 : Int) (List.map (fun (x : Nat × PR) ↦ x.snd) s.2))
                                                 (Int.toNat
                                                  (IntKind.wrap IntKind.i64
                                                   ((1 : Int) +
                                                    Int.tmod i
                                                     (IntKind.wrap IntKind.i64
                                                      ((↑(List.length (upto (0 : Int) (List.map (fun (x : Nat × PR) ↦ x.snd) s.2))) :
                                                       Int) -
                                                       (1 : Int))))))
                                                 (PR.mk (0 : Int) (0 : Int) (ByteArray.mk #[]) false (0 : Int) (ByteArray.mk #[]) false
                                                  false)).1
                                                i).1
                                               (1 : Int) (ByteArray.mk #[(103 : UInt8)]) (ByteArray.mk #[(99 : UInt8)]) nb).1
                                              (1 : Int)).2.1.5,
                                            SV.str
                                             (pReap
                                              (pSpawn
                                               (pExit s
                                                (List.getD (upto (0 : Int) (List.map (fun (x : Nat × PR) ↦ x.snd) s.2))
                                                 (Int.toNat
                                                  (IntKind.wrap IntKind.i64
                                                   ((1 : Int) +
                                                    Int.tmod i
                                                     (IntKind.wrap IntKind.i64
                                                      ((↑(List.length (upto (0 : Int) (List.map (fun (x : Nat × PR) ↦ x.snd) s.2))) :
                                                       Int) -
                                                       (1 : Int))))))
                                                 (PR.mk (0 : Int) (0 : Int) (ByteArray.mk #[]) false (0 : Int) (ByteArray.mk #[]) false
                                                  false)).1
                                                i).1
                                               (1 : Int) (ByteArray.mk #[(103 : UInt8)]) (ByteArray.mk #[(99 : UInt8)]) nb).1
                                              (1 : Int)).2.1.6]
                                           45)]
                                        (SV.bool false)
                                      | false =>
                                       b_1 = b_1 ∧
                                        match
                                         (pReap
                                          (pSpawn
                                           (pExit s
                                            (List.getD (upto (0 : Int) (List.map (fun (x : Nat × PR) ↦ x.snd) s.2))
                                             (Int.toNat
                                              (IntKind.wrap IntKind.i64
                                               ((1 : Int) +
                                                Int.tmod i
                                                 (IntKind.wrap IntKind.i64
                                                  ((↑(List.length (upto (0 : Int) (List.map (fun (x : Nat × PR) ↦ x.snd) s.2))) : Int) -
                                                   (1 : Int))))))
                                             (PR.mk (0 : Int) (0 : Int) (ByteArray.mk #[]) false (0 : Int) (ByteArray.mk #[]) false false)).1
                                            i).1
                                           (1 : Int) (ByteArray.mk #[(103 : UInt8)]) (ByteArray.mk #[(99 : UInt8)]) nb).1
                                          (1 : Int)).2.1.1 !=
                                          (List.getD (upto (0 : Int) (List.map (fun (x : Nat × PR) ↦ x.snd) s.2))
                                           (Int.toNat
                                            (IntKind.wrap IntKind.i64
                                             ((1 : Int) +
                                              Int.tmod i
                                               (IntKind.wrap IntKind.i64
                                                ((↑(List.length (upto (0 : Int) (List.map (fun (x : Nat × PR) ↦ x.snd) s.2))) : Int) - (1 : Int))))))
                                           (PR.mk (0 : Int) (0 : Int) (ByteArray.mk #[]) false (0 : Int) (ByteArray.mk #[]) false false)).1 with
                                        | true =>
                                         N
                                          [pkA b ptE
                                           (pSpawn
                                            (pReap
                                             (pSpawn
                                              (pExit s
                                               (List.getD (upto (0 : Int) (List.map (fun (x : Nat × PR) ↦ x.snd) s.2))
                                                (Int.toNat
                                                 (IntKind.wrap IntKind.i64
                                                  ((1 : Int) +
                                                   Int.tmod i
                                                    (IntKind.wrap IntKind.i64
                                                     ((↑(List.length (upto (0 : Int) (List.map (fun (x : Nat × PR) ↦ x.snd) s.2))) :
                                                      Int) -
                                                      (1 : Int))))))
                                                (PR.mk (0 : Int) (0 : Int) (ByteArray.mk #[]) false (0 : Int) (ByteArray.mk #[]) false
                                                 false)).1
                                               i).1
                                              (1 : Int) (ByteArray.mk #[(103 : UInt8)]) (ByteArray.mk #[(99 : UInt8)]) nb).1
                                             (1 : Int)).1
                                            (1 : Int) (ByteArray.mk #[(103 : UInt8)]) (ByteArray.mk #[(99 : UInt8)]) nb_1).1,
                                           Ent.mk (Loc.sl ao cap)
                                            (SObj.vecL (45 : TypeId) 6 encP6 (upto (0 : Int) (List.map (fun (x : Nat × PR) ↦ x.snd) s.2))
                                             (PR.mk (0 : Int) (0 : Int) (ByteArray.mk #[]) false (0 : Int) (ByteArray.mk #[]) false false)),
                                           Ent.mk (Loc.blk b_1)
                                            (SObj.cells
                                             [SV.int IntKind.i64
                                              (pReap
                                               (pSpawn
                                                (pExit s
                                                 (List.getD (upto (0 : Int) (List.map (fun (x : Nat × PR) ↦ x.snd) s.2))
                                                  (Int.toNat
                                                   (IntKind.wrap IntKind.i64
                                                    ((1 : Int) +
                                                     Int.tmod i
                                                      (IntKind.wrap IntKind.i64
                                                       ((↑(List.length
                                                        (upto (0 : Int) (List.map (fun (x : Nat × PR) ↦ x.snd) s.2))) :
                                                        Int) -
                                                        (1 : Int))))))
                                                  (PR.mk (0 : Int) (0 : Int) (ByteArray.mk #[]) false (0 : Int) (ByteArray.mk #[]) false
                                                   false)).1
                                                 i).1
                                                (1 : Int) (ByteArray.mk #[(103 : UInt8)]) (ByteArray.mk #[(99 : UInt8)]) nb).1
                                               (1 : Int)).2.1.1,
                                              SV.int IntKind.i64
                                               (pReap
                                                (pSpawn
                                                 (pExit s
                                                  (List.getD (upto (0 : Int) (List.map (fun (x : Nat × PR) ↦ x.snd) s.2))
                                                   (Int.toNat
                                                    (IntKind.wrap IntKind.i64
                                                     ((1 : Int) +
                                                      Int.tmod i
                                                       (IntKind.wrap IntKind.i64
                                                        ((↑(List.length
                                                         (upto (0 : Int) (List.map (fun (x : Nat × PR) ↦ x.snd) s.2))) :
                                                         Int) -
                                                         (1 : Int))))))
                                                   (PR.mk (0 : Int) (0 : Int) (ByteArray.mk #[]) false (0 : Int) (ByteArray.mk #[]) false
                                                    false)).1
                                                  i).1
                                                 (1 : Int) (ByteArray.mk #[(103 : UInt8)]) (ByteArray.mk #[(99 : UInt8)]) nb).1
                                                (1 : Int)).2.1.2,
                                              SV.str
                                               (pReap
                                                (pSpawn
                                                 (pExit s
                                                  (List.getD (upto (0 : Int) (List.map (fun (x : Nat × PR) ↦ x.snd) s.2))
                                                   (Int.toNat
                                                    (IntKind.wrap IntKind.i64
                                                     ((1 : Int) +
                                                      Int.tmod i
                                                       (IntKind.wrap IntKind.i64
                                                        ((↑(List.length
                                                         (upto (0 : Int) (List.map (fun (x : Nat × PR) ↦ x.snd) s.2))) :
                                                         Int) -
                                                         (1 : Int))))))
                                                   (PR.mk (0 : Int) (0 : Int) (ByteArray.mk #[]) false (0 : Int) (ByteArray.mk #[]) false
                                                    false)).1
                                                  i).1
                                                 (1 : Int) (ByteArray.mk #[(103 : UInt8)]) (ByteArray.mk #[(99 : UInt8)]) nb).1
                                                (1 : Int)).2.1.3,
                                              SV.bool
                                               (pReap
                                                (pSpawn
                                                 (pExit s
                                                  (List.getD (upto (0 : Int) (List.map (fun (x : Nat × PR) ↦ x.snd) s.2))
                                                   (Int.toNat
                                                    (IntKind.wrap IntKind.i64
                                                     ((1 : Int) +
                                                      Int.tmod i
                                                       (IntKind.wrap IntKind.i64
                                                        ((↑(List.length
                                                         (upto (0 : Int) (List.map (fun (x : Nat × PR) ↦ x.snd) s.2))) :
                                                         Int) -
                                                         (1 : Int))))))
                                                   (PR.mk (0 : Int) (0 : Int) (ByteArray.mk #[]) false (0 : Int) (ByteArray.mk #[]) false
                                                    false)).1
                                                  i).1
                                                 (1 : Int) (ByteArray.mk #[(103 : UInt8)]) (ByteArray.mk #[(99 : UInt8)]) nb).1
                                                (1 : Int)).2.1.4,
                                              SV.int IntKind.i64
                                               (pReap
                                                (pSpawn
                                                 (pExit s
                                                  (List.getD (upto (0 : Int) (List.map (fun (x : Nat × PR) ↦ x.snd) s.2))
                                                   (Int.toNat
                                                    (IntKind.wrap IntKind.i64
                                                     ((1 : Int) +
                                                      Int.tmod i
                                                       (IntKind.wrap IntKind.i64
                                                        ((↑(List.length
                                                         (upto (0 : Int) (List.map (fun (x : Nat × PR) ↦ x.snd) s.2))) :
                                                         Int) -
                                                         (1 : Int))))))
                                                   (PR.mk (0 : Int) (0 : Int) (ByteArray.mk #[]) false (0 : Int) (ByteArray.mk #[]) false
                                                    false)).1
                                                  i).1
                                                 (1 : Int) (ByteArray.mk #[(103 : UInt8)]) (ByteArray.mk #[(99 : UInt8)]) nb).1
                                                (1 : Int)).2.1.5,
                                              SV.str
                                               (pReap
                                                (pSpawn
                                                 (pExit s
                                                  (List.getD (upto (0 : Int) (List.map (fun (x : Nat × PR) ↦ x.snd) s.2))
                                                   (Int.toNat
                                                    (IntKind.wrap IntKind.i64
                                                     ((1 : Int) +
                                                      Int.tmod i
                                                       (IntKind.wrap IntKind.i64
                                                        ((↑(List.length
                                                         (upto (0 : Int) (List.map (fun (x : Nat × PR) ↦ x.snd) s.2))) :
                                                         Int) -
                                                         (1 : Int))))))
                                                   (PR.mk (0 : Int) (0 : Int) (ByteArray.mk #[]) false (0 : Int) (ByteArray.mk #[]) false
                                                    false)).1
                                                  i).1
                                                 (1 : Int) (ByteArray.mk #[(103 : UInt8)]) (ByteArray.mk #[(99 : UInt8)]) nb).1
                                                (1 : Int)).2.1.6]
                                             45)]
                                          (SV.bool false)
                                        | false =>
                                         b_1 = b_1 ∧
                                          match
                                           (pReap
                                            (pSpawn
                                             (pExit s
                                              (List.getD (upto (0 : Int) (List.map (fun (x : Nat × PR) ↦ x.snd) s.2))
                                               (Int.toNat
                                                (IntKind.wrap IntKind.i64
                                                 ((1 : Int) +
                                                  Int.tmod i
                                                   (IntKind.wrap IntKind.i64
                                                    ((↑(List.length (upto (0 : Int) (List.map (fun (x : Nat × PR) ↦ x.snd) s.2))) :
                                                     Int) -
                                                     (1 : Int))))))
                                               (PR.mk (0 : Int) (0 : Int) (ByteArray.mk #[]) false (0 : Int) (ByteArray.mk #[]) false
                                                false)).1
                                              i).1
                                             (1 : Int) (ByteArray.mk #[(103 : UInt8)]) (ByteArray.mk #[(99 : UInt8)]) nb).1
                                            (1 : Int)).2.1.5 !=
                                            i with
                                          | true =>
                                           N
                                            [pkA b ptE
                                             (pSpawn
                                              (pReap
                                               (pSpawn
                                                (pExit s
                                                 (List.getD (upto (0 : Int) (List.map (fun (x : Nat × PR) ↦ x.snd) s.2))
                                                  (Int.toNat
                                                   (IntKind.wrap IntKind.i64
                                                    ((1 : Int) +
                                                     Int.tmod i
                                                      (IntKind.wrap IntKind.i64
                                                       ((↑(List.length
                                                        (upto (0 : Int) (List.map (fun (x : Nat × PR) ↦ x.snd) s.2))) :
                                                        Int) -
                                                        (1 : Int))))))
                                                  (PR.mk (0 : Int) (0 : Int) (ByteArray.mk #[]) false (0 : Int) (ByteArray.mk #[]) false
                                                   false)).1
                                                 i).1
                                                (1 : Int) (ByteArray.mk #[(103 : UInt8)]) (ByteArray.mk #[(99 : UInt8)]) nb).1
                                               (1 : Int)).1
                                              (1 : Int) (ByteArray.mk #[(103 : UInt8)]) (ByteArray.mk #[(99 : UInt8)]) nb_1).1,
                                             Ent.mk (Loc.sl ao cap)
                                              (SObj.vecL (45 : TypeId) 6 encP6 (upto (0 : Int) (List.map (fun (x : Nat × PR) ↦ x.snd) s.2))
                                               (PR.mk (0 : Int) (0 : Int) (ByteArray.mk #[]) false (0 : Int) (ByteArray.mk #[]) false false)),
                                             Ent.mk (Loc.blk b_1)
                                              (SObj.cells
                                               [SV.int IntKind.i64
                                                (pReap
                                                 (pSpawn
                                                  (pExit s
                                                   (List.getD (upto (0 : Int) (List.map (fun (x : Nat × PR) ↦ x.snd) s.2))
                                                    (Int.toNat
                                                     (IntKind.wrap IntKind.i64
                                                      ((1 : Int) +
                                                       Int.tmod i
                                                        (IntKind.wrap IntKind.i64
                                                         ((↑(List.length
                                                          (upto (0 : Int) (List.map (fun (x : Nat × PR) ↦ x.snd) s.2))) :
                                                          Int) -
                                                          (1 : Int))))))
                                                    (PR.mk (0 : Int) (0 : Int) (ByteArray.mk #[]) false (0 : Int) (ByteArray.mk #[])
                                                     false false)).1
                                                   i).1
                                                  (1 : Int) (ByteArray.mk #[(103 : UInt8)]) (ByteArray.mk #[(99 : UInt8)]) nb).1
                                                 (1 : Int)).2.1.1,
                                                SV.int IntKind.i64
                                                 (pReap
                                                  (pSpawn
                                                   (pExit s
                                                    (List.getD (upto (0 : Int) (List.map (fun (x : Nat × PR) ↦ x.snd) s.2))
                                                     (Int.toNat
                                                      (IntKind.wrap IntKind.i64
                                                       ((1 : Int) +
                                                        Int.tmod i
                                                         (IntKind.wrap IntKind.i64
                                                          ((↑(List.length
                                                           (upto (0 : Int) (List.map (fun (x : Nat × PR) ↦ x.snd) s.2))) :
                                                           Int) -
                                                           (1 : Int))))))
                                                     (PR.mk (0 : Int) (0 : Int) (ByteArray.mk #[]) false (0 : Int) (ByteArray.mk #[])
                                                      false false)).1
                                                    i).1
                                                   (1 : Int) (ByteArray.mk #[(103 : UInt8)]) (ByteArray.mk #[(99 : UInt8)]) nb).1
                                                  (1 : Int)).2.1.2,
                                                SV.str
                                                 (pReap
                                                  (pSpawn
                                                   (pExit s
                                                    (List.getD (upto (0 : Int) (List.map (fun (x : Nat × PR) ↦ x.snd) s.2))
                                                     (Int.toNat
                                                      (IntKind.wrap IntKind.i64
                                                       ((1 : Int) +
                                                        Int.tmod i
                                                         (IntKind.wrap IntKind.i64
                                                          ((↑(List.length
                                                           (upto (0 : Int) (List.map (fun (x : Nat × PR) ↦ x.snd) s.2))) :
                                                           Int) -
                                                           (1 : Int))))))
                                                     (PR.mk (0 : Int) (0 : Int) (ByteArray.mk #[]) false (0 : Int) (ByteArray.mk #[])
                                                      false false)).1
                                                    i).1
                                                   (1 : Int) (ByteArray.mk #[(103 : UInt8)]) (ByteArray.mk #[(99 : UInt8)]) nb).1
                                                  (1 : Int)).2.1.3,
                                                SV.bool
                                                 (pReap
                                                  (pSpawn
                                                   (pExit s
                                                    (List.getD (upto (0 : Int) (List.map (fun (x : Nat × PR) ↦ x.snd) s.2))
                                                     (Int.toNat
                                                      (IntKind.wrap IntKind.i64
                                                       ((1 : Int) +
                                                        Int.tmod i
                                                         (IntKind.wrap IntKind.i64
                                                          ((↑(List.length
                                                           (upto (0 : Int) (List.map (fun (x : Nat × PR) ↦ x.snd) s.2))) :
                                                           Int) -
                                                           (1 : Int))))))
                                                     (PR.mk (0 : Int) (0 : Int) (ByteArray.mk #[]) false (0 : Int) (ByteArray.mk #[])
                                                      false false)).1
                                                    i).1
                                                   (1 : Int) (ByteArray.mk #[(103 : UInt8)]) (ByteArray.mk #[(99 : UInt8)]) nb).1
                                                  (1 : Int)).2.1.4,
                                                SV.int IntKind.i64
                                                 (pReap
                                                  (pSpawn
                                                   (pExit s
                                                    (List.getD (upto (0 : Int) (List.map (fun (x : Nat × PR) ↦ x.snd) s.2))
                                                     (Int.toNat
                                                      (IntKind.wrap IntKind.i64
                                                       ((1 : Int) +
                                                        Int.tmod i
                                                         (IntKind.wrap IntKind.i64
                                                          ((↑(List.length
                                                           (upto (0 : Int) (List.map (fun (x : Nat × PR) ↦ x.snd) s.2))) :
                                                           Int) -
                                                           (1 : Int))))))
                                                     (PR.mk (0 : Int) (0 : Int) (ByteArray.mk #[]) false (0 : Int) (ByteArray.mk #[])
                                                      false false)).1
                                                    i).1
                                                   (1 : Int) (ByteArray.mk #[(103 : UInt8)]) (ByteArray.mk #[(99 : UInt8)]) nb).1
                                                  (1 : Int)).2.1.5,
                                                SV.str
                                                 (pReap
                                                  (pSpawn
                                                   (pExit s
                                                    (List.getD (upto (0 : Int) (List.map (fun (x : Nat × PR) ↦ x.snd) s.2))
                                                     (Int.toNat
                                                      (IntKind.wrap IntKind.i64
                                                       ((1 : Int) +
                                                        Int.tmod i
                                                         (IntKind.wrap IntKind.i64
                                                          ((↑(List.length
                                                           (upto (0 : Int) (List.map (fun (x : Nat × PR) ↦ x.snd) s.2))) :
                                                           Int) -
                                                           (1 : Int))))))
                                                     (PR.mk (0 : Int) (0 : Int) (ByteArray.mk #[]) false (0 : Int) (ByteArray.mk #[])
                                                      false false)).1
                                                    i).1
                                                   (1 : Int) (ByteArray.mk #[(103 : UInt8)]) (ByteArray.mk #[(99 : UInt8)]) nb).1
                                                  (1 : Int)).2.1.6]
                                               45)]
                                            (SV.bool false)
                                          | false =>
                                           match
                                            (pSpawn
                                             (pReap
                                              (pSpawn
                                               (pExit s
                                                (List.getD (upto (0 : Int) (List.map (fun (x : Nat × PR) ↦ x.snd) s.2))
                                                 (Int.toNat
                                                  (IntKind.wrap IntKind.i64
                                                   ((1 : Int) +
                                                    Int.tmod i
                                                     (IntKind.wrap IntKind.i64
                                                      ((↑(List.length
                                                       (upto (0 : Int) (List.map (fun (x : Nat × PR) ↦ x.snd) s.2))) :
                                                       Int) -
                                                       (1 : Int))))))
                                                 (PR.mk (0 : Int) (0 : Int) (ByteArray.mk #[]) false (0 : Int) (ByteArray.mk #[]) false
                                                  false)).1
                                                i).1
                                               (1 : Int) (ByteArray.mk #[(103 : UInt8)]) (ByteArray.mk #[(99 : UInt8)]) nb).1
                                              (1 : Int)).1
                                             (1 : Int) (ByteArray.mk #[(103 : UInt8)]) (ByteArray.mk #[(99 : UInt8)]) nb_1).2.2 !=
                                             (0 : Int) with
                                           | true =>
                                            N
                                             [pkA b ptE
                                              (pSpawn
                                               (pReap
                                                (pSpawn
                                                 (pExit s
                                                  (List.getD (upto (0 : Int) (List.map (fun (x : Nat × PR) ↦ x.snd) s.2))
                                                   (Int.toNat
                                                    (IntKind.wrap IntKind.i64
                                                     ((1 : Int) +
                                                      Int.tmod i
                                                       (IntKind.wrap IntKind.i64
                                                        ((↑(List.length
                                                         (upto (0 : Int) (List.map (fun (x : Nat × PR) ↦ x.snd) s.2))) :
                                                         Int) -
                                                         (1 : Int))))))
                                                   (PR.mk (0 : Int) (0 : Int) (ByteArray.mk #[]) false (0 : Int) (ByteArray.mk #[]) false
                                                    false)).1
                                                  i).1
                                                 (1 : Int) (ByteArray.mk #[(103 : UInt8)]) (ByteArray.mk #[(99 : UInt8)]) nb).1
                                                (1 : Int)).1
                                               (1 : Int) (ByteArray.mk #[(103 : UInt8)]) (ByteArray.mk #[(99 : UInt8)]) nb_1).1,
                                              Ent.mk (Loc.sl ao cap)
                                               (SObj.vecL (45 : TypeId) 6 encP6 (upto (0 : Int) (List.map (fun (x : Nat × PR) ↦ x.snd) s.2))
                                                (PR.mk (0 : Int) (0 : Int) (ByteArray.mk #[]) false (0 : Int) (ByteArray.mk #[]) false false)),
                                              Ent.mk (Loc.blk b_1)
                                               (SObj.cells
                                                [SV.int IntKind.i64
                                                 (pReap
                                                  (pSpawn
                                                   (pExit s
                                                    (List.getD (upto (0 : Int) (List.map (fun (x : Nat × PR) ↦ x.snd) s.2))
                                                     (Int.toNat
                                                      (IntKind.wrap IntKind.i64
                                                       ((1 : Int) +
                                                        Int.tmod i
                                                         (IntKind.wrap IntKind.i64
                                                          ((↑(List.length
                                                           (upto (0 : Int)
                                                            (List.map (fun (x : Nat × PR) ↦ x.snd) s.2))) :
                                                           Int) -
                                                           (1 : Int))))))
                                                     (PR.mk (0 : Int) (0 : Int) (ByteArray.mk #[]) false (0 : Int) (ByteArray.mk #[])
                                                      false false)).1
                                                    i).1
                                                   (1 : Int) (ByteArray.mk #[(103 : UInt8)]) (ByteArray.mk #[(99 : UInt8)]) nb).1
                                                  (1 : Int)).2.1.1,
                                                 SV.int IntKind.i64
                                                  (pReap
                                                   (pSpawn
                                                    (pExit s
                                                     (List.getD (upto (0 : Int) (List.map (fun (x : Nat × PR) ↦ x.snd) s.2))
                                                      (Int.toNat
                                                       (IntKind.wrap IntKind.i64
                                                        ((1 : Int) +
                                                         Int.tmod i
                                                          (IntKind.wrap IntKind.i64
                                                           ((↑(List.length
                                                            (upto (0 : Int)
                                                             (List.map (fun (x : Nat × PR) ↦ x.snd) s.2))) :
                                                            Int) -
                                                            (1 : Int))))))
                                                      (PR.mk (0 : Int) (0 : Int) (ByteArray.mk #[]) false (0 : Int) (ByteArray.mk #[])
                                                       false false)).1
                                                     i).1
                                                    (1 : Int) (ByteArray.mk #[(103 : UInt8)]) (ByteArray.mk #[(99 : UInt8)]) nb).1
                                                   (1 : Int)).2.1.2,
                                                 SV.str
                                                  (pReap
                                                   (pSpawn
                                                    (pExit s
                                                     (List.getD (upto (0 : Int) (List.map (fun (x : Nat × PR) ↦ x.snd) s.2))
                                                      (Int.toNat
                                                       (IntKind.wrap IntKind.i64
                                                        ((1 : Int) +
                                                         Int.tmod i
                                                          (IntKind.wrap IntKind.i64
                                                           ((↑(List.length
                                                            (upto (0 : Int)
                                                             (List.map (fun (x : Nat × PR) ↦ x.snd) s.2))) :
                                                            Int) -
                                                            (1 : Int))))))
                                                      (PR.mk (0 : Int) (0 : Int) (ByteArray.mk #[]) false (0 : Int) (ByteArray.mk #[])
                                                       false false)).1
                                                     i).1
                                                    (1 : Int) (ByteArray.mk #[(103 : UInt8)]) (ByteArray.mk #[(99 : UInt8)]) nb).1
                                                   (1 : Int)).2.1.3,
                                                 SV.bool
                                                  (pReap
                                                   (pSpawn
                                                    (pExit s
                                                     (List.getD (upto (0 : Int) (List.map (fun (x : Nat × PR) ↦ x.snd) s.2))
                                                      (Int.toNat
                                                       (IntKind.wrap IntKind.i64
                                                        ((1 : Int) +
                                                         Int.tmod i
                                                          (IntKind.wrap IntKind.i64
                                                           ((↑(List.length
                                                            (upto (0 : Int)
                                                             (List.map (fun (x : Nat × PR) ↦ x.snd) s.2))) :
                                                            Int) -
                                                            (1 : Int))))))
                                                      (PR.mk (0 : Int) (0 : Int) (ByteArray.mk #[]) false (0 : Int) (ByteArray.mk #[])
                                                       false false)).1
                                                     i).1
                                                    (1 : Int) (ByteArray.mk #[(103 : UInt8)]) (ByteArray.mk #[(99 : UInt8)]) nb).1
                                                   (1 : Int)).2.1.4,
                                                 SV.int IntKind.i64
                                                  (pReap
                                                   (pSpawn
                                                    (pExit s
                                                     (List.getD (upto (0 : Int) (List.map (fun (x : Nat × PR) ↦ x.snd) s.2))
                                                      (Int.toNat
                                                       (IntKind.wrap IntKind.i64
                                                        ((1 : Int) +
                                                         Int.tmod i
                                                          (IntKind.wrap IntKind.i64
                                                           ((↑(List.length
                                                            (upto (0 : Int)
                                                             (List.map (fun (x : Nat × PR) ↦ x.snd) s.2))) :
                                                            Int) -
                                                            (1 : Int))))))
                                                      (PR.mk (0 : Int) (0 : Int) (ByteArray.mk #[]) false (0 : Int) (ByteArray.mk #[])
                                                       false false)).1
                                                     i).1
                                                    (1 : Int) (ByteArray.mk #[(103 : UInt8)]) (ByteArray.mk #[(99 : UInt8)]) nb).1
                                                   (1 : Int)).2.1.5,
                                                 SV.str
                                                  (pReap
                                                   (pSpawn
                                                    (pExit s
                                                     (List.getD (upto (0 : Int) (List.map (fun (x : Nat × PR) ↦ x.snd) s.2))
                                                      (Int.toNat
                                                       (IntKind.wrap IntKind.i64
                                                        ((1 : Int) +
                                                         Int.tmod i
                                                          (IntKind.wrap IntKind.i64
                                                           ((↑(List.length
                                                            (upto (0 : Int)
                                                             (List.map (fun (x : Nat × PR) ↦ x.snd) s.2))) :
                                                            Int) -
                                                            (1 : Int))))))
                                                      (PR.mk (0 : Int) (0 : Int) (ByteArray.mk #[]) false (0 : Int) (ByteArray.mk #[])
                                                       false false)).1
                                                     i).1
                                                    (1 : Int) (ByteArray.mk #[(103 : UInt8)]) (ByteArray.mk #[(99 : UInt8)]) nb).1
                                                   (1 : Int)).2.1.6]
                                                45)]
                                             (SV.bool false)
                                           | false =>
                                            match
                                             (pSpawn
                                              (pReap
                                               (pSpawn
                                                (pExit s
                                                 (List.getD (upto (0 : Int) (List.map (fun (x : Nat × PR) ↦ x.snd) s.2))
                                                  (Int.toNat
                                                   (IntKind.wrap IntKind.i64
                                                    ((1 : Int) +
                                                     Int.tmod i
                                                      (IntKind.wrap IntKind.i64
                                                       ((↑(List.length
                                                        (upto (0 : Int) (List.map (fun (x : Nat × PR) ↦ x.snd) s.2))) :
                                                        Int) -
                                                        (1 : Int))))))
                                                  (PR.mk (0 : Int) (0 : Int) (ByteArray.mk #[]) false (0 : Int) (ByteArray.mk #[]) false
                                                   false)).1
                                                 i).1
                                                (1 : Int) (ByteArray.mk #[(103 : UInt8)]) (ByteArray.mk #[(99 : UInt8)]) nb).1
                                               (1 : Int)).1
                                              (1 : Int) (ByteArray.mk #[(103 : UInt8)]) (ByteArray.mk #[(99 : UInt8)]) nb_1).2.1 !=
                                              IntKind.wrap IntKind.i64 (last + (1 : Int)) with
                                            | true =>
                                             N
                                              [pkA b ptE
                                               (pSpawn
                                                (pReap
                                                 (pSpawn
                                                  (pExit s
                                                   (List.getD (upto (0 : Int) (List.map (fun (x : Nat × PR) ↦ x.snd) s.2))
                                                    (Int.toNat
                                                     (IntKind.wrap IntKind.i64
                                                      ((1 : Int) +
                                                       Int.tmod i
                                                        (IntKind.wrap IntKind.i64
                                                         ((↑(List.length
                                                          (upto (0 : Int) (List.map (fun (x : Nat × PR) ↦ x.snd) s.2))) :
                                                          Int) -
                                                          (1 : Int))))))
                                                    (PR.mk (0 : Int) (0 : Int) (ByteArray.mk #[]) false (0 : Int) (ByteArray.mk #[])
                                                     false false)).1
                                                   i).1
                                                  (1 : Int) (ByteArray.mk #[(103 : UInt8)]) (ByteArray.mk #[(99 : UInt8)]) nb).1
                                                 (1 : Int)).1
                                                (1 : Int) (ByteArray.mk #[(103 : UInt8)]) (ByteArray.mk #[(99 : UInt8)]) nb_1).1,
                                               Ent.mk (Loc.sl ao cap)
                                                (SObj.vecL (45 : TypeId) 6 encP6 (upto (0 : Int) (List.map (fun (x : Nat × PR) ↦ x.snd) s.2))
                                                 (PR.mk (0 : Int) (0 : Int) (ByteArray.mk #[]) false (0 : Int) (ByteArray.mk #[]) false false)),
                                               Ent.mk (Loc.blk b_1)
                                                (SObj.cells
                                                 [SV.int IntKind.i64
                                                  (pReap
                                                   (pSpawn
                                                    (pExit s
                                                     (List.getD (upto (0 : Int) (List.map (fun (x : Nat × PR) ↦ x.snd) s.2))
                                                      (Int.toNat
                                                       (IntKind.wrap IntKind.i64
                                                        ((1 : Int) +
                                                         Int.tmod i
                                                          (IntKind.wrap IntKind.i64
                                                           ((↑(List.length
                                                            (upto (0 : Int)
                                                             (List.map (fun (x : Nat × PR) ↦ x.snd) s.2))) :
                                                            Int) -
                                                            (1 : Int))))))
                                                      (PR.mk (0 : Int) (0 : Int) (ByteArray.mk #[]) false (0 : Int)
                                                       (ByteArray.mk #[]) false false)).1
                                                     i).1
                                                    (1 : Int) (ByteArray.mk #[(103 : UInt8)]) (ByteArray.mk #[(99 : UInt8)]) nb).1
                                                   (1 : Int)).2.1.1,
                                                  SV.int IntKind.i64
                                                   (pReap
                                                    (pSpawn
                                                     (pExit s
                                                      (List.getD (upto (0 : Int) (List.map (fun (x : Nat × PR) ↦ x.snd) s.2))
                                                       (Int.toNat
                                                        (IntKind.wrap IntKind.i64
                                                         ((1 : Int) +
                                                          Int.tmod i
                                                           (IntKind.wrap IntKind.i64
                                                            ((↑(List.length
                                                             (upto (0 : Int)
                                                              (List.map (fun (x : Nat × PR) ↦ x.snd) s.2))) :
                                                             Int) -
                                                             (1 : Int))))))
                                                       (PR.mk (0 : Int) (0 : Int) (ByteArray.mk #[]) false (0 : Int)
                                                        (ByteArray.mk #[]) false false)).1
                                                      i).1
                                                     (1 : Int) (ByteArray.mk #[(103 : UInt8)]) (ByteArray.mk #[(99 : UInt8)]) nb).1
                                                    (1 : Int)).2.1.2,
                                                  SV.str
                                                   (pReap
                                                    (pSpawn
                                                     (pExit s
                                                      (List.getD (upto (0 : Int) (List.map (fun (x : Nat × PR) ↦ x.snd) s.2))
                                                       (Int.toNat
                                                        (IntKind.wrap IntKind.i64
                                                         ((1 : Int) +
                                                          Int.tmod i
                                                           (IntKind.wrap IntKind.i64
                                                            ((↑(List.length
                                                             (upto (0 : Int)
                                                              (List.map (fun (x : Nat × PR) ↦ x.snd) s.2))) :
                                                             Int) -
                                                             (1 : Int))))))
                                                       (PR.mk (0 : Int) (0 : Int) (ByteArray.mk #[]) false (0 : Int)
                                                        (ByteArray.mk #[]) false false)).1
                                                      i).1
                                                     (1 : Int) (ByteArray.mk #[(103 : UInt8)]) (ByteArray.mk #[(99 : UInt8)]) nb).1
                                                    (1 : Int)).2.1.3,
                                                  SV.bool
                                                   (pReap
                                                    (pSpawn
                                                     (pExit s
                                                      (List.getD (upto (0 : Int) (List.map (fun (x : Nat × PR) ↦ x.snd) s.2))
                                                       (Int.toNat
                                                        (IntKind.wrap IntKind.i64
                                                         ((1 : Int) +
                                                          Int.tmod i
                                                           (IntKind.wrap IntKind.i64
                                                            ((↑(List.length
                                                             (upto (0 : Int)
                                                              (List.map (fun (x : Nat × PR) ↦ x.snd) s.2))) :
                                                             Int) -
                                                             (1 : Int))))))
                                                       (PR.mk (0 : Int) (0 : Int) (ByteArray.mk #[]) false (0 : Int)
                                                        (ByteArray.mk #[]) false false)).1
                                                      i).1
                                                     (1 : Int) (ByteArray.mk #[(103 : UInt8)]) (ByteArray.mk #[(99 : UInt8)]) nb).1
                                                    (1 : Int)).2.1.4,
                                                  SV.int IntKind.i64
                                                   (pReap
                                                    (pSpawn
                                                     (pExit s
                                                      (List.getD (upto (0 : Int) (List.map (fun (x : Nat × PR) ↦ x.snd) s.2))
                                                       (Int.toNat
                                                        (IntKind.wrap IntKind.i64
                                                         ((1 : Int) +
                                                          Int.tmod i
                                                           (IntKind.wrap IntKind.i64
                                                            ((↑(List.length
                                                             (upto (0 : Int)
                                                              (List.map (fun (x : Nat × PR) ↦ x.snd) s.2))) :
                                                             Int) -
                                                             (1 : Int))))))
                                                       (PR.mk (0 : Int) (0 : Int) (ByteArray.mk #[]) false (0 : Int)
                                                        (ByteArray.mk #[]) false false)).1
                                                      i).1
                                                     (1 : Int) (ByteArray.mk #[(103 : UInt8)]) (ByteArray.mk #[(99 : UInt8)]) nb).1
                                                    (1 : Int)).2.1.5,
                                                  SV.str
                                                   (pReap
                                                    (pSpawn
                                                     (pExit s
                                                      (List.getD (upto (0 : Int) (List.map (fun (x : Nat × PR) ↦ x.snd) s.2))
                                                       (Int.toNat
                                                        (IntKind.wrap IntKind.i64
                                                         ((1 : Int) +
                                                          Int.tmod i
                                                           (IntKind.wrap IntKind.i64
                                                            ((↑(List.length
                                                             (upto (0 : Int)
                                                              (List.map (fun (x : Nat × PR) ↦ x.snd) s.2))) :
                                                             Int) -
                                                             (1 : Int))))))
                                                       (PR.mk (0 : Int) (0 : Int) (ByteArray.mk #[]) false (0 : Int)
                                                        (ByteArray.mk #[]) false false)).1
                                                      i).1
                                                     (1 : Int) (ByteArray.mk #[(103 : UInt8)]) (ByteArray.mk #[(99 : UInt8)]) nb).1
                                                    (1 : Int)).2.1.6]
                                                 45)]
                                              (SV.bool false)
                                            | false =>
                                             K
                                              (Frm.loop J ::
                                               Frm.blk 2 ::
                                                frm [] (bodyOf Try.f5)
                                                 [1, 1, 1, 1, 1, 1, 1, 1, 1,
                                                  1]
                                                 [])
                                              (Sy.mk
                                               [SV.raw (u 0), SV.int IntKind.u8 a1, SV.raw (u 2), SV.raw (u 3),
                                                SV.raw (u 4), SV.int IntKind.i64 n, SV.ptr 0 b 0, SV.int IntKind.i64 k,
                                                SV.raw (u 8), SV.raw (u 9), SV.raw (u 10), SV.raw (u 11),
                                                SV.raw (u 12),
                                                SV.int IntKind.i64
                                                 (pSpawn
                                                  (pReap
                                                   (pSpawn
                                                    (pExit s
                                                     (List.getD (upto (0 : Int) (List.map (fun (x : Nat × PR) ↦ x.snd) s.2))
                                                      (Int.toNat
                                                       (IntKind.wrap IntKind.i64
                                                        ((1 : Int) +
                                                         Int.tmod i
                                                          (IntKind.wrap IntKind.i64
                                                           ((↑(List.length
                                                            (upto (0 : Int)
                                                             (List.map (fun (x : Nat × PR) ↦ x.snd) s.2))) :
                                                            Int) -
                                                            (1 : Int))))))
                                                      (PR.mk (0 : Int) (0 : Int) (ByteArray.mk #[]) false (0 : Int) (ByteArray.mk #[])
                                                       false false)).1
                                                     i).1
                                                    (1 : Int) (ByteArray.mk #[(103 : UInt8)]) (ByteArray.mk #[(99 : UInt8)]) nb).1
                                                   (1 : Int)).1
                                                  (1 : Int) (ByteArray.mk #[(103 : UInt8)]) (ByteArray.mk #[(99 : UInt8)]) nb_1).2.1,
                                                SV.int IntKind.i64 (IntKind.wrap IntKind.i64 (i + (1 : Int))),
                                                SV.vec 1 ao (List.length (upto (0 : Int) (List.map (fun (x : Nat × PR) ↦ x.snd) s.2))) cap,
                                                SV.int IntKind.i64
                                                 (List.getD (upto (0 : Int) (List.map (fun (x : Nat × PR) ↦ x.snd) s.2))
                                                  (Int.toNat
                                                   (IntKind.wrap IntKind.i64
                                                    ((1 : Int) +
                                                     Int.tmod i
                                                      (IntKind.wrap IntKind.i64
                                                       ((↑(List.length (upto (0 : Int) (List.map (fun (x : Nat × PR) ↦ x.snd) s.2))) : Int) -
                                                        (1 : Int))))))
                                                  (PR.mk (0 : Int) (0 : Int) (ByteArray.mk #[]) false (0 : Int) (ByteArray.mk #[]) false false)).1,
                                                SV.int IntKind.i64
                                                 (pSpawn
                                                  (pExit s
                                                   (List.getD (upto (0 : Int) (List.map (fun (x : Nat × PR) ↦ x.snd) s.2))
                                                    (Int.toNat
                                                     (IntKind.wrap IntKind.i64
                                                      ((1 : Int) +
                                                       Int.tmod i
                                                        (IntKind.wrap IntKind.i64
                                                         ((↑(List.length
                                                          (upto (0 : Int) (List.map (fun (x : Nat × PR) ↦ x.snd) s.2))) :
                                                          Int) -
                                                          (1 : Int))))))
                                                    (PR.mk (0 : Int) (0 : Int) (ByteArray.mk #[]) false (0 : Int) (ByteArray.mk #[]) false
                                                     false)).1
                                                   i).1
                                                  (1 : Int) (ByteArray.mk #[(103 : UInt8)]) (ByteArray.mk #[(99 : UInt8)]) nb).2.1,
                                                SV.int IntKind.i64
                                                 (pSpawn
                                                  (pExit s
                                                   (List.getD (upto (0 : Int) (List.map (fun (x : Nat × PR) ↦ x.snd) s.2))
                                                    (Int.toNat
                                                     (IntKind.wrap IntKind.i64
                                                      ((1 : Int) +
                                                       Int.tmod i
                                                        (IntKind.wrap IntKind.i64
                                                         ((↑(List.length
                                                          (upto (0 : Int) (List.map (fun (x : Nat × PR) ↦ x.snd) s.2))) :
                                                          Int) -
                                                          (1 : Int))))))
                                                    (PR.mk (0 : Int) (0 : Int) (ByteArray.mk #[]) false (0 : Int) (ByteArray.mk #[]) false
                                                     false)).1
                                                   i).1
                                                  (1 : Int) (ByteArray.mk #[(103 : UInt8)]) (ByteArray.mk #[(99 : UInt8)]) nb).2.2,
                                                SV.ptr 2 b_1 0,
                                                SV.int IntKind.i64
                                                 (pReap
                                                  (pSpawn
                                                   (pExit s
                                                    (List.getD (upto (0 : Int) (List.map (fun (x : Nat × PR) ↦ x.snd) s.2))
                                                     (Int.toNat
                                                      (IntKind.wrap IntKind.i64
                                                       ((1 : Int) +
                                                        Int.tmod i
                                                         (IntKind.wrap IntKind.i64
                                                          ((↑(List.length
                                                           (upto (0 : Int) (List.map (fun (x : Nat × PR) ↦ x.snd) s.2))) :
                                                           Int) -
                                                           (1 : Int))))))
                                                     (PR.mk (0 : Int) (0 : Int) (ByteArray.mk #[]) false (0 : Int) (ByteArray.mk #[])
                                                      false false)).1
                                                    i).1
                                                   (1 : Int) (ByteArray.mk #[(103 : UInt8)]) (ByteArray.mk #[(99 : UInt8)]) nb).1
                                                  (1 : Int)).2.2,
                                                SV.int IntKind.i64
                                                 (pSpawn
                                                  (pReap
                                                   (pSpawn
                                                    (pExit s
                                                     (List.getD (upto (0 : Int) (List.map (fun (x : Nat × PR) ↦ x.snd) s.2))
                                                      (Int.toNat
                                                       (IntKind.wrap IntKind.i64
                                                        ((1 : Int) +
                                                         Int.tmod i
                                                          (IntKind.wrap IntKind.i64
                                                           ((↑(List.length
                                                            (upto (0 : Int)
                                                             (List.map (fun (x : Nat × PR) ↦ x.snd) s.2))) :
                                                            Int) -
                                                            (1 : Int))))))
                                                      (PR.mk (0 : Int) (0 : Int) (ByteArray.mk #[]) false (0 : Int) (ByteArray.mk #[])
                                                       false false)).1
                                                     i).1
                                                    (1 : Int) (ByteArray.mk #[(103 : UInt8)]) (ByteArray.mk #[(99 : UInt8)]) nb).1
                                                   (1 : Int)).1
                                                  (1 : Int) (ByteArray.mk #[(103 : UInt8)]) (ByteArray.mk #[(99 : UInt8)]) nb_1).2.1,
                                                SV.int IntKind.i64
                                                 (pSpawn
                                                  (pReap
                                                   (pSpawn
                                                    (pExit s
                                                     (List.getD (upto (0 : Int) (List.map (fun (x : Nat × PR) ↦ x.snd) s.2))
                                                      (Int.toNat
                                                       (IntKind.wrap IntKind.i64
                                                        ((1 : Int) +
                                                         Int.tmod i
                                                          (IntKind.wrap IntKind.i64
                                                           ((↑(List.length
                                                            (upto (0 : Int)
                                                             (List.map (fun (x : Nat × PR) ↦ x.snd) s.2))) :
                                                            Int) -
                                                            (1 : Int))))))
                                                      (PR.mk (0 : Int) (0 : Int) (ByteArray.mk #[]) false (0 : Int) (ByteArray.mk #[])
                                                       false false)).1
                                                     i).1
                                                    (1 : Int) (ByteArray.mk #[(103 : UInt8)]) (ByteArray.mk #[(99 : UInt8)]) nb).1
                                                   (1 : Int)).1
                                                  (1 : Int) (ByteArray.mk #[(103 : UInt8)]) (ByteArray.mk #[(99 : UInt8)]) nb_1).2.2,
                                                SV.raw (u 23), SV.raw (u 24), SV.raw (u 25), SV.raw (u 26),
                                                SV.raw (u 27), SV.raw (u 28), SV.raw (u 29), SV.raw (u 30),
                                                SV.raw (u 31), SV.raw (u 32), SV.raw (u 33), SV.raw (u 34),
                                                SV.raw (u 35), SV.raw (u 36), SV.raw (u 37), SV.raw (u 38),
                                                SV.raw (u 39), SV.raw (u 40), SV.raw (u 41), SV.raw (u 42),
                                                SV.raw (u 43), SV.raw (u 44), SV.raw (u 45), SV.raw (u 46),
                                                SV.raw (u 47), SV.raw (u 48), SV.raw (u 49), SV.raw (u 50),
                                                SV.raw (u 51), SV.raw (u 52), SV.raw (u 53), SV.raw (u 54),
                                                SV.raw (u 55), SV.raw (u 56), SV.raw (u 57), SV.raw (u 58),
                                                SV.raw (u 59), SV.raw (u 60), SV.raw (u 61), SV.raw (u 62),
                                                SV.raw (u 63), SV.raw (u 64), SV.int IntKind.i64 i, SV.int IntKind.u8 a1,
                                                SV.int IntKind.u8 (Int.tmod a1 (20 : Int)),
                                                SV.int IntKind.i64 (IntKind.wrap IntKind.i64 (Int.tmod a1 (20 : Int))),
                                                SV.bool (decide (i < IntKind.wrap IntKind.i64 (Int.tmod a1 (20 : Int)))), SV.bool true,
                                                SV.int IntKind.i64 k, SV.bool (decide (k > (0 : Int))), SV.bool true, SV.int IntKind.i64 i,
                                                SV.int IntKind.i64 (IntKind.wrap IntKind.i64 (i + (1 : Int))), SV.ptr 0 b 0,
                                                SV.vec 1 ao (List.length (upto (0 : Int) (List.map (fun (x : Nat × PR) ↦ x.snd) s.2))) cap,
                                                SV.vec 1 ao (List.length (upto (0 : Int) (List.map (fun (x : Nat × PR) ↦ x.snd) s.2))) cap,
                                                SV.int IntKind.i64 i,
                                                SV.vec 1 ao (List.length (upto (0 : Int) (List.map (fun (x : Nat × PR) ↦ x.snd) s.2))) cap,
                                                SV.int IntKind.i64 (↑(List.length (upto (0 : Int) (List.map (fun (x : Nat × PR) ↦ x.snd) s.2))) : Int),
                                                SV.int IntKind.i64
                                                 (IntKind.wrap IntKind.i64
                                                  ((↑(List.length (upto (0 : Int) (List.map (fun (x : Nat × PR) ↦ x.snd) s.2))) : Int) - (1 : Int))),
                                                SV.int IntKind.i64
                                                 (Int.tmod i
                                                  (IntKind.wrap IntKind.i64
                                                   ((↑(List.length (upto (0 : Int) (List.map (fun (x : Nat × PR) ↦ x.snd) s.2))) : Int) -
                                                    (1 : Int)))),
                                                SV.int IntKind.i64
                                                 (IntKind.wrap IntKind.i64
                                                  ((1 : Int) +
                                                   Int.tmod i
                                                    (IntKind.wrap IntKind.i64
                                                     ((↑(List.length (upto (0 : Int) (List.map (fun (x : Nat × PR) ↦ x.snd) s.2))) : Int) -
                                                      (1 : Int))))),
                                                SV.eptr 1 (Addr.blkD ao) (Addr.offD ao) 6
                                                 (Int.toNat
                                                  (IntKind.wrap IntKind.i64
                                                   ((1 : Int) +
                                                    Int.tmod i
                                                     (IntKind.wrap IntKind.i64
                                                      ((↑(List.length (upto (0 : Int) (List.map (fun (x : Nat × PR) ↦ x.snd) s.2))) : Int) -
                                                       (1 : Int))))))
                                                 0,
                                                SV.eptr 1 (Addr.blkD ao) (Addr.offD ao) 6
                                                 (Int.toNat
                                                  (IntKind.wrap IntKind.i64
                                                   ((1 : Int) +
                                                    Int.tmod i
                                                     (IntKind.wrap IntKind.i64
                                                      ((↑(List.length (upto (0 : Int) (List.map (fun (x : Nat × PR) ↦ x.snd) s.2))) : Int) -
                                                       (1 : Int))))))
                                                 0,
                                                SV.int IntKind.i64
                                                 (List.getD (upto (0 : Int) (List.map (fun (x : Nat × PR) ↦ x.snd) s.2))
                                                  (Int.toNat
                                                   (IntKind.wrap IntKind.i64
                                                    ((1 : Int) +
                                                     Int.tmod i
                                                      (IntKind.wrap IntKind.i64
                                                       ((↑(List.length (upto (0 : Int) (List.map (fun (x : Nat × PR) ↦ x.snd) s.2))) : Int) -
                                                        (1 : Int))))))
                                                  (PR.mk (0 : Int) (0 : Int) (ByteArray.mk #[]) false (0 : Int) (ByteArray.mk #[]) false false)).1,
                                                SV.ptr 0 b 0,
                                                SV.int IntKind.i64
                                                 (List.getD (upto (0 : Int) (List.map (fun (x : Nat × PR) ↦ x.snd) s.2))
                                                  (Int.toNat
                                                   (IntKind.wrap IntKind.i64
                                                    ((1 : Int) +
                                                     Int.tmod i
                                                      (IntKind.wrap IntKind.i64
                                                       ((↑(List.length (upto (0 : Int) (List.map (fun (x : Nat × PR) ↦ x.snd) s.2))) : Int) -
                                                        (1 : Int))))))
                                                  (PR.mk (0 : Int) (0 : Int) (ByteArray.mk #[]) false (0 : Int) (ByteArray.mk #[]) false false)).1,
                                                SV.int IntKind.i64 i,
                                                SV.int IntKind.i64
                                                 (pExit s
                                                  (List.getD (upto (0 : Int) (List.map (fun (x : Nat × PR) ↦ x.snd) s.2))
                                                   (Int.toNat
                                                    (IntKind.wrap IntKind.i64
                                                     ((1 : Int) +
                                                      Int.tmod i
                                                       (IntKind.wrap IntKind.i64
                                                        ((↑(List.length (upto (0 : Int) (List.map (fun (x : Nat × PR) ↦ x.snd) s.2))) :
                                                         Int) -
                                                         (1 : Int))))))
                                                   (PR.mk (0 : Int) (0 : Int) (ByteArray.mk #[]) false (0 : Int) (ByteArray.mk #[]) false
                                                    false)).1
                                                  i).2,
                                                SV.bool false,
                                                SV.tuple
                                                 [SV.int IntKind.i64
                                                  (pSpawn
                                                   (pExit s
                                                    (List.getD (upto (0 : Int) (List.map (fun (x : Nat × PR) ↦ x.snd) s.2))
                                                     (Int.toNat
                                                      (IntKind.wrap IntKind.i64
                                                       ((1 : Int) +
                                                        Int.tmod i
                                                         (IntKind.wrap IntKind.i64
                                                          ((↑(List.length
                                                           (upto (0 : Int) (List.map (fun (x : Nat × PR) ↦ x.snd) s.2))) :
                                                           Int) -
                                                           (1 : Int))))))
                                                     (PR.mk (0 : Int) (0 : Int) (ByteArray.mk #[]) false (0 : Int) (ByteArray.mk #[])
                                                      false false)).1
                                                    i).1
                                                   (1 : Int) (ByteArray.mk #[(103 : UInt8)]) (ByteArray.mk #[(99 : UInt8)]) nb).2.1,
                                                  SV.int IntKind.i64
                                                   (pSpawn
                                                    (pExit s
                                                     (List.getD (upto (0 : Int) (List.map (fun (x : Nat × PR) ↦ x.snd) s.2))
                                                      (Int.toNat
                                                       (IntKind.wrap IntKind.i64
                                                        ((1 : Int) +
                                                         Int.tmod i
                                                          (IntKind.wrap IntKind.i64
                                                           ((↑(List.length
                                                            (upto (0 : Int) (List.map (fun (x : Nat × PR) ↦ x.snd) s.2))) :
                                                            Int) -
                                                            (1 : Int))))))
                                                      (PR.mk (0 : Int) (0 : Int) (ByteArray.mk #[]) false (0 : Int) (ByteArray.mk #[])
                                                       false false)).1
                                                     i).1
                                                    (1 : Int) (ByteArray.mk #[(103 : UInt8)]) (ByteArray.mk #[(99 : UInt8)]) nb).2.2],
                                                SV.ptr 0 b 0,
                                                SV.tuple
                                                 [SV.int IntKind.i64
                                                  (pSpawn
                                                   (pExit s
                                                    (List.getD (upto (0 : Int) (List.map (fun (x : Nat × PR) ↦ x.snd) s.2))
                                                     (Int.toNat
                                                      (IntKind.wrap IntKind.i64
                                                       ((1 : Int) +
                                                        Int.tmod i
                                                         (IntKind.wrap IntKind.i64
                                                          ((↑(List.length
                                                           (upto (0 : Int) (List.map (fun (x : Nat × PR) ↦ x.snd) s.2))) :
                                                           Int) -
                                                           (1 : Int))))))
                                                     (PR.mk (0 : Int) (0 : Int) (ByteArray.mk #[]) false (0 : Int) (ByteArray.mk #[])
                                                      false false)).1
                                                    i).1
                                                   (1 : Int) (ByteArray.mk #[(103 : UInt8)]) (ByteArray.mk #[(99 : UInt8)]) nb).2.1,
                                                  SV.int IntKind.i64
                                                   (pSpawn
                                                    (pExit s
                                                     (List.getD (upto (0 : Int) (List.map (fun (x : Nat × PR) ↦ x.snd) s.2))
                                                      (Int.toNat
                                                       (IntKind.wrap IntKind.i64
                                                        ((1 : Int) +
                                                         Int.tmod i
                                                          (IntKind.wrap IntKind.i64
                                                           ((↑(List.length
                                                            (upto (0 : Int) (List.map (fun (x : Nat × PR) ↦ x.snd) s.2))) :
                                                            Int) -
                                                            (1 : Int))))))
                                                      (PR.mk (0 : Int) (0 : Int) (ByteArray.mk #[]) false (0 : Int) (ByteArray.mk #[])
                                                       false false)).1
                                                     i).1
                                                    (1 : Int) (ByteArray.mk #[(103 : UInt8)]) (ByteArray.mk #[(99 : UInt8)]) nb).2.2],
                                                SV.int IntKind.i64
                                                 (pSpawn
                                                  (pExit s
                                                   (List.getD (upto (0 : Int) (List.map (fun (x : Nat × PR) ↦ x.snd) s.2))
                                                    (Int.toNat
                                                     (IntKind.wrap IntKind.i64
                                                      ((1 : Int) +
                                                       Int.tmod i
                                                        (IntKind.wrap IntKind.i64
                                                         ((↑(List.length
                                                          (upto (0 : Int) (List.map (fun (x : Nat × PR) ↦ x.snd) s.2))) :
                                                          Int) -
                                                          (1 : Int))))))
                                                    (PR.mk (0 : Int) (0 : Int) (ByteArray.mk #[]) false (0 : Int) (ByteArray.mk #[]) false
                                                     false)).1
                                                   i).1
                                                  (1 : Int) (ByteArray.mk #[(103 : UInt8)]) (ByteArray.mk #[(99 : UInt8)]) nb).2.1,
                                                SV.int IntKind.i64
                                                 (pSpawn
                                                  (pExit s
                                                   (List.getD (upto (0 : Int) (List.map (fun (x : Nat × PR) ↦ x.snd) s.2))
                                                    (Int.toNat
                                                     (IntKind.wrap IntKind.i64
                                                      ((1 : Int) +
                                                       Int.tmod i
                                                        (IntKind.wrap IntKind.i64
                                                         ((↑(List.length
                                                          (upto (0 : Int) (List.map (fun (x : Nat × PR) ↦ x.snd) s.2))) :
                                                          Int) -
                                                          (1 : Int))))))
                                                    (PR.mk (0 : Int) (0 : Int) (ByteArray.mk #[]) false (0 : Int) (ByteArray.mk #[]) false
                                                     false)).1
                                                   i).1
                                                  (1 : Int) (ByteArray.mk #[(103 : UInt8)]) (ByteArray.mk #[(99 : UInt8)]) nb).2.2,
                                                SV.tuple
                                                 [SV.agg
                                                  [SV.int IntKind.i64
                                                   (pReap
                                                    (pSpawn
                                                     (pExit s
                                                      (List.getD (upto (0 : Int) (List.map (fun (x : Nat × PR) ↦ x.snd) s.2))
                                                       (Int.toNat
                                                        (IntKind.wrap IntKind.i64
                                                         ((1 : Int) +
                                                          Int.tmod i
                                                           (IntKind.wrap IntKind.i64
                                                            ((↑(List.length
                                                             (upto (0 : Int)
                                                              (List.map (fun (x : Nat × PR) ↦ x.snd) s.2))) :
                                                             Int) -
                                                             (1 : Int))))))
                                                       (PR.mk (0 : Int) (0 : Int) (ByteArray.mk #[]) false (0 : Int)
                                                        (ByteArray.mk #[]) false false)).1
                                                      i).1
                                                     (1 : Int) (ByteArray.mk #[(103 : UInt8)]) (ByteArray.mk #[(99 : UInt8)]) nb).1
                                                    (1 : Int)).2.1.1,
                                                   SV.int IntKind.i64
                                                    (pReap
                                                     (pSpawn
                                                      (pExit s
                                                       (List.getD (upto (0 : Int) (List.map (fun (x : Nat × PR) ↦ x.snd) s.2))
                                                        (Int.toNat
                                                         (IntKind.wrap IntKind.i64
                                                          ((1 : Int) +
                                                           Int.tmod i
                                                            (IntKind.wrap IntKind.i64
                                                             ((↑(List.length
                                                              (upto (0 : Int)
                                                               (List.map (fun (x : Nat × PR) ↦ x.snd) s.2))) :
                                                              Int) -
                                                              (1 : Int))))))
                                                        (PR.mk (0 : Int) (0 : Int) (ByteArray.mk #[]) false (0 : Int)
                                                         (ByteArray.mk #[]) false false)).1
                                                       i).1
                                                      (1 : Int) (ByteArray.mk #[(103 : UInt8)]) (ByteArray.mk #[(99 : UInt8)]) nb).1
                                                     (1 : Int)).2.1.2,
                                                   SV.str
                                                    (pReap
                                                     (pSpawn
                                                      (pExit s
                                                       (List.getD (upto (0 : Int) (List.map (fun (x : Nat × PR) ↦ x.snd) s.2))
                                                        (Int.toNat
                                                         (IntKind.wrap IntKind.i64
                                                          ((1 : Int) +
                                                           Int.tmod i
                                                            (IntKind.wrap IntKind.i64
                                                             ((↑(List.length
                                                              (upto (0 : Int)
                                                               (List.map (fun (x : Nat × PR) ↦ x.snd) s.2))) :
                                                              Int) -
                                                              (1 : Int))))))
                                                        (PR.mk (0 : Int) (0 : Int) (ByteArray.mk #[]) false (0 : Int)
                                                         (ByteArray.mk #[]) false false)).1
                                                       i).1
                                                      (1 : Int) (ByteArray.mk #[(103 : UInt8)]) (ByteArray.mk #[(99 : UInt8)]) nb).1
                                                     (1 : Int)).2.1.3,
                                                   SV.bool
                                                    (pReap
                                                     (pSpawn
                                                      (pExit s
                                                       (List.getD (upto (0 : Int) (List.map (fun (x : Nat × PR) ↦ x.snd) s.2))
                                                        (Int.toNat
                                                         (IntKind.wrap IntKind.i64
                                                          ((1 : Int) +
                                                           Int.tmod i
                                                            (IntKind.wrap IntKind.i64
                                                             ((↑(List.length
                                                              (upto (0 : Int)
                                                               (List.map (fun (x : Nat × PR) ↦ x.snd) s.2))) :
                                                              Int) -
                                                              (1 : Int))))))
                                                        (PR.mk (0 : Int) (0 : Int) (ByteArray.mk #[]) false (0 : Int)
                                                         (ByteArray.mk #[]) false false)).1
                                                       i).1
                                                      (1 : Int) (ByteArray.mk #[(103 : UInt8)]) (ByteArray.mk #[(99 : UInt8)]) nb).1
                                                     (1 : Int)).2.1.4,
                                                   SV.int IntKind.i64
                                                    (pReap
                                                     (pSpawn
                                                      (pExit s
                                                       (List.getD (upto (0 : Int) (List.map (fun (x : Nat × PR) ↦ x.snd) s.2))
                                                        (Int.toNat
                                                         (IntKind.wrap IntKind.i64
                                                          ((1 : Int) +
                                                           Int.tmod i
                                                            (IntKind.wrap IntKind.i64
                                                             ((↑(List.length
                                                              (upto (0 : Int)
                                                               (List.map (fun (x : Nat × PR) ↦ x.snd) s.2))) :
                                                              Int) -
                                                              (1 : Int))))))
                                                        (PR.mk (0 : Int) (0 : Int) (ByteArray.mk #[]) false (0 : Int)
                                                         (ByteArray.mk #[]) false false)).1
                                                       i).1
                                                      (1 : Int) (ByteArray.mk #[(103 : UInt8)]) (ByteArray.mk #[(99 : UInt8)]) nb).1
                                                     (1 : Int)).2.1.5,
                                                   SV.str
                                                    (pReap
                                                     (pSpawn
                                                      (pExit s
                                                       (List.getD (upto (0 : Int) (List.map (fun (x : Nat × PR) ↦ x.snd) s.2))
                                                        (Int.toNat
                                                         (IntKind.wrap IntKind.i64
                                                          ((1 : Int) +
                                                           Int.tmod i
                                                            (IntKind.wrap IntKind.i64
                                                             ((↑(List.length
                                                              (upto (0 : Int)
                                                               (List.map (fun (x : Nat × PR) ↦ x.snd) s.2))) :
                                                              Int) -
                                                              (1 : Int))))))
                                                        (PR.mk (0 : Int) (0 : Int) (ByteArray.mk #[]) false (0 : Int)
                                                         (ByteArray.mk #[]) false false)).1
                                                       i).1
                                                      (1 : Int) (ByteArray.mk #[(103 : UInt8)]) (ByteArray.mk #[(99 : UInt8)]) nb).1
                                                     (1 : Int)).2.1.6],
                                                  SV.int IntKind.i64
                                                   (pReap
                                                    (pSpawn
                                                     (pExit s
                                                      (List.getD (upto (0 : Int) (List.map (fun (x : Nat × PR) ↦ x.snd) s.2))
                                                       (Int.toNat
                                                        (IntKind.wrap IntKind.i64
                                                         ((1 : Int) +
                                                          Int.tmod i
                                                           (IntKind.wrap IntKind.i64
                                                            ((↑(List.length
                                                             (upto (0 : Int)
                                                              (List.map (fun (x : Nat × PR) ↦ x.snd) s.2))) :
                                                             Int) -
                                                             (1 : Int))))))
                                                       (PR.mk (0 : Int) (0 : Int) (ByteArray.mk #[]) false (0 : Int) (ByteArray.mk #[])
                                                        false false)).1
                                                      i).1
                                                     (1 : Int) (ByteArray.mk #[(103 : UInt8)]) (ByteArray.mk #[(99 : UInt8)]) nb).1
                                                    (1 : Int)).2.2],
                                                SV.ptr 0 b 0,
                                                SV.tuple
                                                 [SV.agg
                                                  [SV.int IntKind.i64
                                                   (pReap
                                                    (pSpawn
                                                     (pExit s
                                                      (List.getD (upto (0 : Int) (List.map (fun (x : Nat × PR) ↦ x.snd) s.2))
                                                       (Int.toNat
                                                        (IntKind.wrap IntKind.i64
                                                         ((1 : Int) +
                                                          Int.tmod i
                                                           (IntKind.wrap IntKind.i64
                                                            ((↑(List.length
                                                             (upto (0 : Int)
                                                              (List.map (fun (x : Nat × PR) ↦ x.snd) s.2))) :
                                                             Int) -
                                                             (1 : Int))))))
                                                       (PR.mk (0 : Int) (0 : Int) (ByteArray.mk #[]) false (0 : Int)
                                                        (ByteArray.mk #[]) false false)).1
                                                      i).1
                                                     (1 : Int) (ByteArray.mk #[(103 : UInt8)]) (ByteArray.mk #[(99 : UInt8)]) nb).1
                                                    (1 : Int)).2.1.1,
                                                   SV.int IntKind.i64
                                                    (pReap
                                                     (pSpawn
                                                      (pExit s
                                                       (List.getD (upto (0 : Int) (List.map (fun (x : Nat × PR) ↦ x.snd) s.2))
                                                        (Int.toNat
                                                         (IntKind.wrap IntKind.i64
                                                          ((1 : Int) +
                                                           Int.tmod i
                                                            (IntKind.wrap IntKind.i64
                                                             ((↑(List.length
                                                              (upto (0 : Int)
                                                               (List.map (fun (x : Nat × PR) ↦ x.snd) s.2))) :
                                                              Int) -
                                                              (1 : Int))))))
                                                        (PR.mk (0 : Int) (0 : Int) (ByteArray.mk #[]) false (0 : Int)
                                                         (ByteArray.mk #[]) false false)).1
                                                       i).1
                                                      (1 : Int) (ByteArray.mk #[(103 : UInt8)]) (ByteArray.mk #[(99 : UInt8)]) nb).1
                                                     (1 : Int)).2.1.2,
                                                   SV.str
                                                    (pReap
                                                     (pSpawn
                                                      (pExit s
                                                       (List.getD (upto (0 : Int) (List.map (fun (x : Nat × PR) ↦ x.snd) s.2))
                                                        (Int.toNat
                                                         (IntKind.wrap IntKind.i64
                                                          ((1 : Int) +
                                                           Int.tmod i
                                                            (IntKind.wrap IntKind.i64
                                                             ((↑(List.length
                                                              (upto (0 : Int)
                                                               (List.map (fun (x : Nat × PR) ↦ x.snd) s.2))) :
                                                              Int) -
                                                              (1 : Int))))))
                                                        (PR.mk (0 : Int) (0 : Int) (ByteArray.mk #[]) false (0 : Int)
                                                         (ByteArray.mk #[]) false false)).1
                                                       i).1
                                                      (1 : Int) (ByteArray.mk #[(103 : UInt8)]) (ByteArray.mk #[(99 : UInt8)]) nb).1
                                                     (1 : Int)).2.1.3,
                                                   SV.bool
                                                    (pReap
                                                     (pSpawn
                                                      (pExit s
                                                       (List.getD (upto (0 : Int) (List.map (fun (x : Nat × PR) ↦ x.snd) s.2))
                                                        (Int.toNat
                                                         (IntKind.wrap IntKind.i64
                                                          ((1 : Int) +
                                                           Int.tmod i
                                                            (IntKind.wrap IntKind.i64
                                                             ((↑(List.length
                                                              (upto (0 : Int)
                                                               (List.map (fun (x : Nat × PR) ↦ x.snd) s.2))) :
                                                              Int) -
                                                              (1 : Int))))))
                                                        (PR.mk (0 : Int) (0 : Int) (ByteArray.mk #[]) false (0 : Int)
                                                         (ByteArray.mk #[]) false false)).1
                                                       i).1
                                                      (1 : Int) (ByteArray.mk #[(103 : UInt8)]) (ByteArray.mk #[(99 : UInt8)]) nb).1
                                                     (1 : Int)).2.1.4,
                                                   SV.int IntKind.i64
                                                    (pReap
                                                     (pSpawn
                                                      (pExit s
                                                       (List.getD (upto (0 : Int) (List.map (fun (x : Nat × PR) ↦ x.snd) s.2))
                                                        (Int.toNat
                                                         (IntKind.wrap IntKind.i64
                                                          ((1 : Int) +
                                                           Int.tmod i
                                                            (IntKind.wrap IntKind.i64
                                                             ((↑(List.length
                                                              (upto (0 : Int)
                                                               (List.map (fun (x : Nat × PR) ↦ x.snd) s.2))) :
                                                              Int) -
                                                              (1 : Int))))))
                                                        (PR.mk (0 : Int) (0 : Int) (ByteArray.mk #[]) false (0 : Int)
                                                         (ByteArray.mk #[]) false false)).1
                                                       i).1
                                                      (1 : Int) (ByteArray.mk #[(103 : UInt8)]) (ByteArray.mk #[(99 : UInt8)]) nb).1
                                                     (1 : Int)).2.1.5,
                                                   SV.str
                                                    (pReap
                                                     (pSpawn
                                                      (pExit s
                                                       (List.getD (upto (0 : Int) (List.map (fun (x : Nat × PR) ↦ x.snd) s.2))
                                                        (Int.toNat
                                                         (IntKind.wrap IntKind.i64
                                                          ((1 : Int) +
                                                           Int.tmod i
                                                            (IntKind.wrap IntKind.i64
                                                             ((↑(List.length
                                                              (upto (0 : Int)
                                                               (List.map (fun (x : Nat × PR) ↦ x.snd) s.2))) :
                                                              Int) -
                                                              (1 : Int))))))
                                                        (PR.mk (0 : Int) (0 : Int) (ByteArray.mk #[]) false (0 : Int)
                                                         (ByteArray.mk #[]) false false)).1
                                                       i).1
                                                      (1 : Int) (ByteArray.mk #[(103 : UInt8)]) (ByteArray.mk #[(99 : UInt8)]) nb).1
                                                     (1 : Int)).2.1.6],
                                                  SV.int IntKind.i64
                                                   (pReap
                                                    (pSpawn
                                                     (pExit s
                                                      (List.getD (upto (0 : Int) (List.map (fun (x : Nat × PR) ↦ x.snd) s.2))
                                                       (Int.toNat
                                                        (IntKind.wrap IntKind.i64
                                                         ((1 : Int) +
                                                          Int.tmod i
                                                           (IntKind.wrap IntKind.i64
                                                            ((↑(List.length
                                                             (upto (0 : Int)
                                                              (List.map (fun (x : Nat × PR) ↦ x.snd) s.2))) :
                                                             Int) -
                                                             (1 : Int))))))
                                                       (PR.mk (0 : Int) (0 : Int) (ByteArray.mk #[]) false (0 : Int) (ByteArray.mk #[])
                                                        false false)).1
                                                      i).1
                                                     (1 : Int) (ByteArray.mk #[(103 : UInt8)]) (ByteArray.mk #[(99 : UInt8)]) nb).1
                                                    (1 : Int)).2.2],
                                                SV.agg
                                                 [SV.int IntKind.i64
                                                  (pReap
                                                   (pSpawn
                                                    (pExit s
                                                     (List.getD (upto (0 : Int) (List.map (fun (x : Nat × PR) ↦ x.snd) s.2))
                                                      (Int.toNat
                                                       (IntKind.wrap IntKind.i64
                                                        ((1 : Int) +
                                                         Int.tmod i
                                                          (IntKind.wrap IntKind.i64
                                                           ((↑(List.length
                                                            (upto (0 : Int)
                                                             (List.map (fun (x : Nat × PR) ↦ x.snd) s.2))) :
                                                            Int) -
                                                            (1 : Int))))))
                                                      (PR.mk (0 : Int) (0 : Int) (ByteArray.mk #[]) false (0 : Int)
                                                       (ByteArray.mk #[]) false false)).1
                                                     i).1
                                                    (1 : Int) (ByteArray.mk #[(103 : UInt8)]) (ByteArray.mk #[(99 : UInt8)]) nb).1
                                                   (1 : Int)).2.1.1,
                                                  SV.int IntKind.i64
                                                   (pReap
                                                    (pSpawn
                                                     (pExit s
                                                      (List.getD (upto (0 : Int) (List.map (fun (x : Nat × PR) ↦ x.snd) s.2))
                                                       (Int.toNat
                                                        (IntKind.wrap IntKind.i64
                                                         ((1 : Int) +
                                                          Int.tmod i
                                                           (IntKind.wrap IntKind.i64
                                                            ((↑(List.length
                                                             (upto (0 : Int)
                                                              (List.map (fun (x : Nat × PR) ↦ x.snd) s.2))) :
                                                             Int) -
                                                             (1 : Int))))))
                                                       (PR.mk (0 : Int) (0 : Int) (ByteArray.mk #[]) false (0 : Int)
                                                        (ByteArray.mk #[]) false false)).1
                                                      i).1
                                                     (1 : Int) (ByteArray.mk #[(103 : UInt8)]) (ByteArray.mk #[(99 : UInt8)]) nb).1
                                                    (1 : Int)).2.1.2,
                                                  SV.str
                                                   (pReap
                                                    (pSpawn
                                                     (pExit s
                                                      (List.getD (upto (0 : Int) (List.map (fun (x : Nat × PR) ↦ x.snd) s.2))
                                                       (Int.toNat
                                                        (IntKind.wrap IntKind.i64
                                                         ((1 : Int) +
                                                          Int.tmod i
                                                           (IntKind.wrap IntKind.i64
                                                            ((↑(List.length
                                                             (upto (0 : Int)
                                                              (List.map (fun (x : Nat × PR) ↦ x.snd) s.2))) :
                                                             Int) -
                                                             (1 : Int))))))
                                                       (PR.mk (0 : Int) (0 : Int) (ByteArray.mk #[]) false (0 : Int)
                                                        (ByteArray.mk #[]) false false)).1
                                                      i).1
                                                     (1 : Int) (ByteArray.mk #[(103 : UInt8)]) (ByteArray.mk #[(99 : UInt8)]) nb).1
                                                    (1 : Int)).2.1.3,
                                                  SV.bool
                                                   (pReap
                                                    (pSpawn
                                                     (pExit s
                                                      (List.getD (upto (0 : Int) (List.map (fun (x : Nat × PR) ↦ x.snd) s.2))
                                                       (Int.toNat
                                                        (IntKind.wrap IntKind.i64
                                                         ((1 : Int) +
                                                          Int.tmod i
                                                           (IntKind.wrap IntKind.i64
                                                            ((↑(List.length
                                                             (upto (0 : Int)
                                                              (List.map (fun (x : Nat × PR) ↦ x.snd) s.2))) :
                                                             Int) -
                                                             (1 : Int))))))
                                                       (PR.mk (0 : Int) (0 : Int) (ByteArray.mk #[]) false (0 : Int)
                                                        (ByteArray.mk #[]) false false)).1
                                                      i).1
                                                     (1 : Int) (ByteArray.mk #[(103 : UInt8)]) (ByteArray.mk #[(99 : UInt8)]) nb).1
                                                    (1 : Int)).2.1.4,
                                                  SV.int IntKind.i64
                                                   (pReap
                                                    (pSpawn
                                                     (pExit s
                                                      (List.getD (upto (0 : Int) (List.map (fun (x : Nat × PR) ↦ x.snd) s.2))
                                                       (Int.toNat
                                                        (IntKind.wrap IntKind.i64
                                                         ((1 : Int) +
                                                          Int.tmod i
                                                           (IntKind.wrap IntKind.i64
                                                            ((↑(List.length
                                                             (upto (0 : Int)
                                                              (List.map (fun (x : Nat × PR) ↦ x.snd) s.2))) :
                                                             Int) -
                                                             (1 : Int))))))
                                                       (PR.mk (0 : Int) (0 : Int) (ByteArray.mk #[]) false (0 : Int)
                                                        (ByteArray.mk #[]) false false)).1
                                                      i).1
                                                     (1 : Int) (ByteArray.mk #[(103 : UInt8)]) (ByteArray.mk #[(99 : UInt8)]) nb).1
                                                    (1 : Int)).2.1.5,
                                                  SV.str
                                                   (pReap
                                                    (pSpawn
                                                     (pExit s
                                                      (List.getD (upto (0 : Int) (List.map (fun (x : Nat × PR) ↦ x.snd) s.2))
                                                       (Int.toNat
                                                        (IntKind.wrap IntKind.i64
                                                         ((1 : Int) +
                                                          Int.tmod i
                                                           (IntKind.wrap IntKind.i64
                                                            ((↑(List.length
                                                             (upto (0 : Int)
                                                              (List.map (fun (x : Nat × PR) ↦ x.snd) s.2))) :
                                                             Int) -
                                                             (1 : Int))))))
                                                       (PR.mk (0 : Int) (0 : Int) (ByteArray.mk #[]) false (0 : Int)
                                                        (ByteArray.mk #[]) false false)).1
                                                      i).1
                                                     (1 : Int) (ByteArray.mk #[(103 : UInt8)]) (ByteArray.mk #[(99 : UInt8)]) nb).1
                                                    (1 : Int)).2.1.6],
                                                SV.int IntKind.i64
                                                 (pReap
                                                  (pSpawn
                                                   (pExit s
                                                    (List.getD (upto (0 : Int) (List.map (fun (x : Nat × PR) ↦ x.snd) s.2))
                                                     (Int.toNat
                                                      (IntKind.wrap IntKind.i64
                                                       ((1 : Int) +
                                                        Int.tmod i
                                                         (IntKind.wrap IntKind.i64
                                                          ((↑(List.length
                                                           (upto (0 : Int) (List.map (fun (x : Nat × PR) ↦ x.snd) s.2))) :
                                                           Int) -
                                                           (1 : Int))))))
                                                     (PR.mk (0 : Int) (0 : Int) (ByteArray.mk #[]) false (0 : Int) (ByteArray.mk #[])
                                                      false false)).1
                                                    i).1
                                                   (1 : Int) (ByteArray.mk #[(103 : UInt8)]) (ByteArray.mk #[(99 : UInt8)]) nb).1
                                                  (1 : Int)).2.2,
                                                SV.tuple
                                                 [SV.int IntKind.i64
                                                  (pSpawn
                                                   (pReap
                                                    (pSpawn
                                                     (pExit s
                                                      (List.getD (upto (0 : Int) (List.map (fun (x : Nat × PR) ↦ x.snd) s.2))
                                                       (Int.toNat
                                                        (IntKind.wrap IntKind.i64
                                                         ((1 : Int) +
                                                          Int.tmod i
                                                           (IntKind.wrap IntKind.i64
                                                            ((↑(List.length
                                                             (upto (0 : Int)
                                                              (List.map (fun (x : Nat × PR) ↦ x.snd) s.2))) :
                                                             Int) -
                                                             (1 : Int))))))
                                                       (PR.mk (0 : Int) (0 : Int) (ByteArray.mk #[]) false (0 : Int)
                                                        (ByteArray.mk #[]) false false)).1
                                                      i).1
                                                     (1 : Int) (ByteArray.mk #[(103 : UInt8)]) (ByteArray.mk #[(99 : UInt8)]) nb).1
                                                    (1 : Int)).1
                                                   (1 : Int) (ByteArray.mk #[(103 : UInt8)]) (ByteArray.mk #[(99 : UInt8)]) nb_1).2.1,
                                                  SV.int IntKind.i64
                                                   (pSpawn
                                                    (pReap
                                                     (pSpawn
                                                      (pExit s
                                                       (List.getD (upto (0 : Int) (List.map (fun (x : Nat × PR) ↦ x.snd) s.2))
                                                        (Int.toNat
                                                         (IntKind.wrap IntKind.i64
                                                          ((1 : Int) +
                                                           Int.tmod i
                                                            (IntKind.wrap IntKind.i64
                                                             ((↑(List.length
                                                              (upto (0 : Int)
                                                               (List.map (fun (x : Nat × PR) ↦ x.snd) s.2))) :
                                                              Int) -
                                                              (1 : Int))))))
                                                        (PR.mk (0 : Int) (0 : Int) (ByteArray.mk #[]) false (0 : Int)
                                                         (ByteArray.mk #[]) false false)).1
                                                       i).1
                                                      (1 : Int) (ByteArray.mk #[(103 : UInt8)]) (ByteArray.mk #[(99 : UInt8)]) nb).1
                                                     (1 : Int)).1
                                                    (1 : Int) (ByteArray.mk #[(103 : UInt8)]) (ByteArray.mk #[(99 : UInt8)]) nb_1).2.2],
                                                SV.ptr 0 b 0,
                                                SV.tuple
                                                 [SV.int IntKind.i64
                                                  (pSpawn
                                                   (pReap
                                                    (pSpawn
                                                     (pExit s
                                                      (List.getD (upto (0 : Int) (List.map (fun (x : Nat × PR) ↦ x.snd) s.2))
                                                       (Int.toNat
                                                        (IntKind.wrap IntKind.i64
                                                         ((1 : Int) +
                                                          Int.tmod i
                                                           (IntKind.wrap IntKind.i64
                                                            ((↑(List.length
                                                             (upto (0 : Int)
                                                              (List.map (fun (x : Nat × PR) ↦ x.snd) s.2))) :
                                                             Int) -
                                                             (1 : Int))))))
                                                       (PR.mk (0 : Int) (0 : Int) (ByteArray.mk #[]) false (0 : Int)
                                                        (ByteArray.mk #[]) false false)).1
                                                      i).1
                                                     (1 : Int) (ByteArray.mk #[(103 : UInt8)]) (ByteArray.mk #[(99 : UInt8)]) nb).1
                                                    (1 : Int)).1
                                                   (1 : Int) (ByteArray.mk #[(103 : UInt8)]) (ByteArray.mk #[(99 : UInt8)]) nb_1).2.1,
                                                  SV.int IntKind.i64
                                                   (pSpawn
                                                    (pReap
                                                     (pSpawn
                                                      (pExit s
                                                       (List.getD (upto (0 : Int) (List.map (fun (x : Nat × PR) ↦ x.snd) s.2))
                                                        (Int.toNat
                                                         (IntKind.wrap IntKind.i64
                                                          ((1 : Int) +
                                                           Int.tmod i
                                                            (IntKind.wrap IntKind.i64
                                                             ((↑(List.length
                                                              (upto (0 : Int)
                                                               (List.map (fun (x : Nat × PR) ↦ x.snd) s.2))) :
                                                              Int) -
                                                              (1 : Int))))))
                                                        (PR.mk (0 : Int) (0 : Int) (ByteArray.mk #[]) false (0 : Int)
                                                         (ByteArray.mk #[]) false false)).1
                                                       i).1
                                                      (1 : Int) (ByteArray.mk #[(103 : UInt8)]) (ByteArray.mk #[(99 : UInt8)]) nb).1
                                                     (1 : Int)).1
                                                    (1 : Int) (ByteArray.mk #[(103 : UInt8)]) (ByteArray.mk #[(99 : UInt8)]) nb_1).2.2],
                                                SV.int IntKind.i64
                                                 (pSpawn
                                                  (pReap
                                                   (pSpawn
                                                    (pExit s
                                                     (List.getD (upto (0 : Int) (List.map (fun (x : Nat × PR) ↦ x.snd) s.2))
                                                      (Int.toNat
                                                       (IntKind.wrap IntKind.i64
                                                        ((1 : Int) +
                                                         Int.tmod i
                                                          (IntKind.wrap IntKind.i64
                                                           ((↑(List.length
                                                            (upto (0 : Int)
                                                             (List.map (fun (x : Nat × PR) ↦ x.snd) s.2))) :
                                                            Int) -
                                                            (1 : Int))))))
                                                      (PR.mk (0 : Int) (0 : Int) (ByteArray.mk #[]) false (0 : Int) (ByteArray.mk #[])
                                                       false false)).1
                                                     i).1
                                                    (1 : Int) (ByteArray.mk #[(103 : UInt8)]) (ByteArray.mk #[(99 : UInt8)]) nb).1
                                                   (1 : Int)).1
                                                  (1 : Int) (ByteArray.mk #[(103 : UInt8)]) (ByteArray.mk #[(99 : UInt8)]) nb_1).2.1,
                                                SV.int IntKind.i64
                                                 (pSpawn
                                                  (pReap
                                                   (pSpawn
                                                    (pExit s
                                                     (List.getD (upto (0 : Int) (List.map (fun (x : Nat × PR) ↦ x.snd) s.2))
                                                      (Int.toNat
                                                       (IntKind.wrap IntKind.i64
                                                        ((1 : Int) +
                                                         Int.tmod i
                                                          (IntKind.wrap IntKind.i64
                                                           ((↑(List.length
                                                            (upto (0 : Int)
                                                             (List.map (fun (x : Nat × PR) ↦ x.snd) s.2))) :
                                                            Int) -
                                                            (1 : Int))))))
                                                      (PR.mk (0 : Int) (0 : Int) (ByteArray.mk #[]) false (0 : Int) (ByteArray.mk #[])
                                                       false false)).1
                                                     i).1
                                                    (1 : Int) (ByteArray.mk #[(103 : UInt8)]) (ByteArray.mk #[(99 : UInt8)]) nb).1
                                                   (1 : Int)).1
                                                  (1 : Int) (ByteArray.mk #[(103 : UInt8)]) (ByteArray.mk #[(99 : UInt8)]) nb_1).2.2,
                                                SV.int IntKind.i64
                                                 (pSpawn
                                                  (pExit s
                                                   (List.getD (upto (0 : Int) (List.map (fun (x : Nat × PR) ↦ x.snd) s.2))
                                                    (Int.toNat
                                                     (IntKind.wrap IntKind.i64
                                                      ((1 : Int) +
                                                       Int.tmod i
                                                        (IntKind.wrap IntKind.i64
                                                         ((↑(List.length
                                                          (upto (0 : Int) (List.map (fun (x : Nat × PR) ↦ x.snd) s.2))) :
                                                          Int) -
                                                          (1 : Int))))))
                                                    (PR.mk (0 : Int) (0 : Int) (ByteArray.mk #[]) false (0 : Int) (ByteArray.mk #[]) false
                                                     false)).1
                                                   i).1
                                                  (1 : Int) (ByteArray.mk #[(103 : UInt8)]) (ByteArray.mk #[(99 : UInt8)]) nb).2.2,
                                                SV.bool
                                                 ((pSpawn
                                                  (pExit s
                                                   (List.getD (upto (0 : Int) (List.map (fun (x : Nat × PR) ↦ x.snd) s.2))
                                                    (Int.toNat
                                                     (IntKind.wrap IntKind.i64
                                                      ((1 : Int) +
                                                       Int.tmod i
                                                        (IntKind.wrap IntKind.i64
                                                         ((↑(List.length
                                                          (upto (0 : Int) (List.map (fun (x : Nat × PR) ↦ x.snd) s.2))) :
                                                          Int) -
                                                          (1 : Int))))))
                                                    (PR.mk (0 : Int) (0 : Int) (ByteArray.mk #[]) false (0 : Int) (ByteArray.mk #[]) false
                                                     false)).1
                                                   i).1
                                                  (1 : Int) (ByteArray.mk #[(103 : UInt8)]) (ByteArray.mk #[(99 : UInt8)]) nb).2.2 !=
                                                  (81 : Int)),
                                                SV.bool false,
                                                SV.int IntKind.i64
                                                 (pReap
                                                  (pSpawn
                                                   (pExit s
                                                    (List.getD (upto (0 : Int) (List.map (fun (x : Nat × PR) ↦ x.snd) s.2))
                                                     (Int.toNat
                                                      (IntKind.wrap IntKind.i64
                                                       ((1 : Int) +
                                                        Int.tmod i
                                                         (IntKind.wrap IntKind.i64
                                                          ((↑(List.length
                                                           (upto (0 : Int) (List.map (fun (x : Nat × PR) ↦ x.snd) s.2))) :
                                                           Int) -
                                                           (1 : Int))))))
                                                     (PR.mk (0 : Int) (0 : Int) (ByteArray.mk #[]) false (0 : Int) (ByteArray.mk #[])
                                                      false false)).1
                                                    i).1
                                                   (1 : Int) (ByteArray.mk #[(103 : UInt8)]) (ByteArray.mk #[(99 : UInt8)]) nb).1
                                                  (1 : Int)).2.2,
                                                SV.bool
                                                 ((pReap
                                                  (pSpawn
                                                   (pExit s
                                                    (List.getD (upto (0 : Int) (List.map (fun (x : Nat × PR) ↦ x.snd) s.2))
                                                     (Int.toNat
                                                      (IntKind.wrap IntKind.i64
                                                       ((1 : Int) +
                                                        Int.tmod i
                                                         (IntKind.wrap IntKind.i64
                                                          ((↑(List.length
                                                           (upto (0 : Int) (List.map (fun (x : Nat × PR) ↦ x.snd) s.2))) :
                                                           Int) -
                                                           (1 : Int))))))
                                                     (PR.mk (0 : Int) (0 : Int) (ByteArray.mk #[]) false (0 : Int) (ByteArray.mk #[])
                                                      false false)).1
                                                    i).1
                                                   (1 : Int) (ByteArray.mk #[(103 : UInt8)]) (ByteArray.mk #[(99 : UInt8)]) nb).1
                                                  (1 : Int)).2.2 !=
                                                  (0 : Int)),
                                                SV.bool
                                                 ((pReap
                                                  (pSpawn
                                                   (pExit s
                                                    (List.getD (upto (0 : Int) (List.map (fun (x : Nat × PR) ↦ x.snd) s.2))
                                                     (Int.toNat
                                                      (IntKind.wrap IntKind.i64
                                                       ((1 : Int) +
                                                        Int.tmod i
                                                         (IntKind.wrap IntKind.i64
                                                          ((↑(List.length
                                                           (upto (0 : Int) (List.map (fun (x : Nat × PR) ↦ x.snd) s.2))) :
                                                           Int) -
                                                           (1 : Int))))))
                                                     (PR.mk (0 : Int) (0 : Int) (ByteArray.mk #[]) false (0 : Int) (ByteArray.mk #[])
                                                      false false)).1
                                                    i).1
                                                   (1 : Int) (ByteArray.mk #[(103 : UInt8)]) (ByteArray.mk #[(99 : UInt8)]) nb).1
                                                  (1 : Int)).2.2 !=
                                                  (0 : Int)),
                                                SV.bool false, SV.ptr 2 b_1 0,
                                                SV.int IntKind.i64
                                                 (pReap
                                                  (pSpawn
                                                   (pExit s
                                                    (List.getD (upto (0 : Int) (List.map (fun (x : Nat × PR) ↦ x.snd) s.2))
                                                     (Int.toNat
                                                      (IntKind.wrap IntKind.i64
                                                       ((1 : Int) +
                                                        Int.tmod i
                                                         (IntKind.wrap IntKind.i64
                                                          ((↑(List.length
                                                           (upto (0 : Int) (List.map (fun (x : Nat × PR) ↦ x.snd) s.2))) :
                                                           Int) -
                                                           (1 : Int))))))
                                                     (PR.mk (0 : Int) (0 : Int) (ByteArray.mk #[]) false (0 : Int) (ByteArray.mk #[])
                                                      false false)).1
                                                    i).1
                                                   (1 : Int) (ByteArray.mk #[(103 : UInt8)]) (ByteArray.mk #[(99 : UInt8)]) nb).1
                                                  (1 : Int)).2.1.1,
                                                SV.int IntKind.i64
                                                 (List.getD (upto (0 : Int) (List.map (fun (x : Nat × PR) ↦ x.snd) s.2))
                                                  (Int.toNat
                                                   (IntKind.wrap IntKind.i64
                                                    ((1 : Int) +
                                                     Int.tmod i
                                                      (IntKind.wrap IntKind.i64
                                                       ((↑(List.length (upto (0 : Int) (List.map (fun (x : Nat × PR) ↦ x.snd) s.2))) : Int) -
                                                        (1 : Int))))))
                                                  (PR.mk (0 : Int) (0 : Int) (ByteArray.mk #[]) false (0 : Int) (ByteArray.mk #[]) false false)).1,
                                                SV.bool
                                                 ((pReap
                                                  (pSpawn
                                                   (pExit s
                                                    (List.getD (upto (0 : Int) (List.map (fun (x : Nat × PR) ↦ x.snd) s.2))
                                                     (Int.toNat
                                                      (IntKind.wrap IntKind.i64
                                                       ((1 : Int) +
                                                        Int.tmod i
                                                         (IntKind.wrap IntKind.i64
                                                          ((↑(List.length
                                                           (upto (0 : Int)
                                                            (List.map (fun (x : Nat × PR) ↦ x.snd) s.2))) :
                                                           Int) -
                                                           (1 : Int))))))
                                                     (PR.mk (0 : Int) (0 : Int) (ByteArray.mk #[]) false (0 : Int) (ByteArray.mk #[])
                                                      false false)).1
                                                    i).1
                                                   (1 : Int) (ByteArray.mk #[(103 : UInt8)]) (ByteArray.mk #[(99 : UInt8)]) nb).1
                                                  (1 : Int)).2.1.1 !=
                                                  (List.getD (upto (0 : Int) (List.map (fun (x : Nat × PR) ↦ x.snd) s.2))
                                                   (Int.toNat
                                                    (IntKind.wrap IntKind.i64
                                                     ((1 : Int) +
                                                      Int.tmod i
                                                       (IntKind.wrap IntKind.i64
                                                        ((↑(List.length (upto (0 : Int) (List.map (fun (x : Nat × PR) ↦ x.snd) s.2))) : Int) -
                                                         (1 : Int))))))
                                                   (PR.mk (0 : Int) (0 : Int) (ByteArray.mk #[]) false (0 : Int) (ByteArray.mk #[]) false
                                                    false)).1),
                                                SV.bool
                                                 ((pReap
                                                  (pSpawn
                                                   (pExit s
                                                    (List.getD (upto (0 : Int) (List.map (fun (x : Nat × PR) ↦ x.snd) s.2))
                                                     (Int.toNat
                                                      (IntKind.wrap IntKind.i64
                                                       ((1 : Int) +
                                                        Int.tmod i
                                                         (IntKind.wrap IntKind.i64
                                                          ((↑(List.length
                                                           (upto (0 : Int)
                                                            (List.map (fun (x : Nat × PR) ↦ x.snd) s.2))) :
                                                           Int) -
                                                           (1 : Int))))))
                                                     (PR.mk (0 : Int) (0 : Int) (ByteArray.mk #[]) false (0 : Int) (ByteArray.mk #[])
                                                      false false)).1
                                                    i).1
                                                   (1 : Int) (ByteArray.mk #[(103 : UInt8)]) (ByteArray.mk #[(99 : UInt8)]) nb).1
                                                  (1 : Int)).2.1.1 !=
                                                  (List.getD (upto (0 : Int) (List.map (fun (x : Nat × PR) ↦ x.snd) s.2))
                                                   (Int.toNat
                                                    (IntKind.wrap IntKind.i64
                                                     ((1 : Int) +
                                                      Int.tmod i
                                                       (IntKind.wrap IntKind.i64
                                                        ((↑(List.length (upto (0 : Int) (List.map (fun (x : Nat × PR) ↦ x.snd) s.2))) : Int) -
                                                         (1 : Int))))))
                                                   (PR.mk (0 : Int) (0 : Int) (ByteArray.mk #[]) false (0 : Int) (ByteArray.mk #[]) false
                                                    false)).1),
                                                SV.bool false, SV.ptr 2 b_1 4,
                                                SV.int IntKind.i64
                                                 (pReap
                                                  (pSpawn
                                                   (pExit s
                                                    (List.getD (upto (0 : Int) (List.map (fun (x : Nat × PR) ↦ x.snd) s.2))
                                                     (Int.toNat
                                                      (IntKind.wrap IntKind.i64
                                                       ((1 : Int) +
                                                        Int.tmod i
                                                         (IntKind.wrap IntKind.i64
                                                          ((↑(List.length
                                                           (upto (0 : Int) (List.map (fun (x : Nat × PR) ↦ x.snd) s.2))) :
                                                           Int) -
                                                           (1 : Int))))))
                                                     (PR.mk (0 : Int) (0 : Int) (ByteArray.mk #[]) false (0 : Int) (ByteArray.mk #[])
                                                      false false)).1
                                                    i).1
                                                   (1 : Int) (ByteArray.mk #[(103 : UInt8)]) (ByteArray.mk #[(99 : UInt8)]) nb).1
                                                  (1 : Int)).2.1.5,
                                                SV.int IntKind.i64 i,
                                                SV.bool
                                                 ((pReap
                                                  (pSpawn
                                                   (pExit s
                                                    (List.getD (upto (0 : Int) (List.map (fun (x : Nat × PR) ↦ x.snd) s.2))
                                                     (Int.toNat
                                                      (IntKind.wrap IntKind.i64
                                                       ((1 : Int) +
                                                        Int.tmod i
                                                         (IntKind.wrap IntKind.i64
                                                          ((↑(List.length
                                                           (upto (0 : Int)
                                                            (List.map (fun (x : Nat × PR) ↦ x.snd) s.2))) :
                                                           Int) -
                                                           (1 : Int))))))
                                                     (PR.mk (0 : Int) (0 : Int) (ByteArray.mk #[]) false (0 : Int) (ByteArray.mk #[])
                                                      false false)).1
                                                    i).1
                                                   (1 : Int) (ByteArray.mk #[(103 : UInt8)]) (ByteArray.mk #[(99 : UInt8)]) nb).1
                                                  (1 : Int)).2.1.5 !=
                                                  i),
                                                SV.bool
                                                 ((pReap
                                                  (pSpawn
                                                   (pExit s
                                                    (List.getD (upto (0 : Int) (List.map (fun (x : Nat × PR) ↦ x.snd) s.2))
                                                     (Int.toNat
                                                      (IntKind.wrap IntKind.i64
                                                       ((1 : Int) +
                                                        Int.tmod i
                                                         (IntKind.wrap IntKind.i64
                                                          ((↑(List.length
                                                           (upto (0 : Int)
                                                            (List.map (fun (x : Nat × PR) ↦ x.snd) s.2))) :
                                                           Int) -
                                                           (1 : Int))))))
                                                     (PR.mk (0 : Int) (0 : Int) (ByteArray.mk #[]) false (0 : Int) (ByteArray.mk #[])
                                                      false false)).1
                                                    i).1
                                                   (1 : Int) (ByteArray.mk #[(103 : UInt8)]) (ByteArray.mk #[(99 : UInt8)]) nb).1
                                                  (1 : Int)).2.1.5 !=
                                                  i),
                                                SV.bool false,
                                                SV.int IntKind.i64
                                                 (pSpawn
                                                  (pReap
                                                   (pSpawn
                                                    (pExit s
                                                     (List.getD (upto (0 : Int) (List.map (fun (x : Nat × PR) ↦ x.snd) s.2))
                                                      (Int.toNat
                                                       (IntKind.wrap IntKind.i64
                                                        ((1 : Int) +
                                                         Int.tmod i
                                                          (IntKind.wrap IntKind.i64
                                                           ((↑(List.length
                                                            (upto (0 : Int)
                                                             (List.map (fun (x : Nat × PR) ↦ x.snd) s.2))) :
                                                            Int) -
                                                            (1 : Int))))))
                                                      (PR.mk (0 : Int) (0 : Int) (ByteArray.mk #[]) false (0 : Int) (ByteArray.mk #[])
                                                       false false)).1
                                                     i).1
                                                    (1 : Int) (ByteArray.mk #[(103 : UInt8)]) (ByteArray.mk #[(99 : UInt8)]) nb).1
                                                   (1 : Int)).1
                                                  (1 : Int) (ByteArray.mk #[(103 : UInt8)]) (ByteArray.mk #[(99 : UInt8)]) nb_1).2.2,
                                                SV.bool
                                                 ((pSpawn
                                                  (pReap
                                                   (pSpawn
                                                    (pExit s
                                                     (List.getD (upto (0 : Int) (List.map (fun (x : Nat × PR) ↦ x.snd) s.2))
                                                      (Int.toNat
                                                       (IntKind.wrap IntKind.i64
                                                        ((1 : Int) +
                                                         Int.tmod i
                                                          (IntKind.wrap IntKind.i64
                                                           ((↑(List.length
                                                            (upto (0 : Int)
                                                             (List.map (fun (x : Nat × PR) ↦ x.snd) s.2))) :
                                                            Int) -
                                                            (1 : Int))))))
                                                      (PR.mk (0 : Int) (0 : Int) (ByteArray.mk #[]) false (0 : Int)
                                                       (ByteArray.mk #[]) false false)).1
                                                     i).1
                                                    (1 : Int) (ByteArray.mk #[(103 : UInt8)]) (ByteArray.mk #[(99 : UInt8)]) nb).1
                                                   (1 : Int)).1
                                                  (1 : Int) (ByteArray.mk #[(103 : UInt8)]) (ByteArray.mk #[(99 : UInt8)]) nb_1).2.2 !=
                                                  (0 : Int)),
                                                SV.bool
                                                 ((pSpawn
                                                  (pReap
                                                   (pSpawn
                                                    (pExit s
                                                     (List.getD (upto (0 : Int) (List.map (fun (x : Nat × PR) ↦ x.snd) s.2))
                                                      (Int.toNat
                                                       (IntKind.wrap IntKind.i64
                                                        ((1 : Int) +
                                                         Int.tmod i
                                                          (IntKind.wrap IntKind.i64
                                                           ((↑(List.length
                                                            (upto (0 : Int)
                                                             (List.map (fun (x : Nat × PR) ↦ x.snd) s.2))) :
                                                            Int) -
                                                            (1 : Int))))))
                                                      (PR.mk (0 : Int) (0 : Int) (ByteArray.mk #[]) false (0 : Int)
                                                       (ByteArray.mk #[]) false false)).1
                                                     i).1
                                                    (1 : Int) (ByteArray.mk #[(103 : UInt8)]) (ByteArray.mk #[(99 : UInt8)]) nb).1
                                                   (1 : Int)).1
                                                  (1 : Int) (ByteArray.mk #[(103 : UInt8)]) (ByteArray.mk #[(99 : UInt8)]) nb_1).2.2 !=
                                                  (0 : Int)),
                                                SV.bool false,
                                                SV.int IntKind.i64
                                                 (pSpawn
                                                  (pReap
                                                   (pSpawn
                                                    (pExit s
                                                     (List.getD (upto (0 : Int) (List.map (fun (x : Nat × PR) ↦ x.snd) s.2))
                                                      (Int.toNat
                                                       (IntKind.wrap IntKind.i64
                                                        ((1 : Int) +
                                                         Int.tmod i
                                                          (IntKind.wrap IntKind.i64
                                                           ((↑(List.length
                                                            (upto (0 : Int)
                                                             (List.map (fun (x : Nat × PR) ↦ x.snd) s.2))) :
                                                            Int) -
                                                            (1 : Int))))))
                                                      (PR.mk (0 : Int) (0 : Int) (ByteArray.mk #[]) false (0 : Int) (ByteArray.mk #[])
                                                       false false)).1
                                                     i).1
                                                    (1 : Int) (ByteArray.mk #[(103 : UInt8)]) (ByteArray.mk #[(99 : UInt8)]) nb).1
                                                   (1 : Int)).1
                                                  (1 : Int) (ByteArray.mk #[(103 : UInt8)]) (ByteArray.mk #[(99 : UInt8)]) nb_1).2.1,
                                                SV.int IntKind.i64 last, SV.int IntKind.i64 (IntKind.wrap IntKind.i64 (last + (1 : Int))),
                                                SV.bool
                                                 ((pSpawn
                                                  (pReap
                                                   (pSpawn
                                                    (pExit s
                                                     (List.getD (upto (0 : Int) (List.map (fun (x : Nat × PR) ↦ x.snd) s.2))
                                                      (Int.toNat
                                                       (IntKind.wrap IntKind.i64
                                                        ((1 : Int) +
                                                         Int.tmod i
                                                          (IntKind.wrap IntKind.i64
                                                           ((↑(List.length
                                                            (upto (0 : Int)
                                                             (List.map (fun (x : Nat × PR) ↦ x.snd) s.2))) :
                                                            Int) -
                                                            (1 : Int))))))
                                                      (PR.mk (0 : Int) (0 : Int) (ByteArray.mk #[]) false (0 : Int)
                                                       (ByteArray.mk #[]) false false)).1
                                                     i).1
                                                    (1 : Int) (ByteArray.mk #[(103 : UInt8)]) (ByteArray.mk #[(99 : UInt8)]) nb).1
                                                   (1 : Int)).1
                                                  (1 : Int) (ByteArray.mk #[(103 : UInt8)]) (ByteArray.mk #[(99 : UInt8)]) nb_1).2.1 !=
                                                  IntKind.wrap IntKind.i64 (last + (1 : Int))),
                                                SV.bool false,
                                                SV.int IntKind.i64
                                                 (pSpawn
                                                  (pReap
                                                   (pSpawn
                                                    (pExit s
                                                     (List.getD (upto (0 : Int) (List.map (fun (x : Nat × PR) ↦ x.snd) s.2))
                                                      (Int.toNat
                                                       (IntKind.wrap IntKind.i64
                                                        ((1 : Int) +
                                                         Int.tmod i
                                                          (IntKind.wrap IntKind.i64
                                                           ((↑(List.length
                                                            (upto (0 : Int)
                                                             (List.map (fun (x : Nat × PR) ↦ x.snd) s.2))) :
                                                            Int) -
                                                            (1 : Int))))))
                                                      (PR.mk (0 : Int) (0 : Int) (ByteArray.mk #[]) false (0 : Int) (ByteArray.mk #[])
                                                       false false)).1
                                                     i).1
                                                    (1 : Int) (ByteArray.mk #[(103 : UInt8)]) (ByteArray.mk #[(99 : UInt8)]) nb).1
                                                   (1 : Int)).1
                                                  (1 : Int) (ByteArray.mk #[(103 : UInt8)]) (ByteArray.mk #[(99 : UInt8)]) nb_1).2.1]
                                               [pkA b ptE
                                                (pSpawn
                                                 (pReap
                                                  (pSpawn
                                                   (pExit s
                                                    (List.getD (upto (0 : Int) (List.map (fun (x : Nat × PR) ↦ x.snd) s.2))
                                                     (Int.toNat
                                                      (IntKind.wrap IntKind.i64
                                                       ((1 : Int) +
                                                        Int.tmod i
                                                         (IntKind.wrap IntKind.i64
                                                          ((↑(List.length
                                                           (upto (0 : Int) (List.map (fun (x : Nat × PR) ↦ x.snd) s.2))) :
                                                           Int) -
                                                           (1 : Int))))))
                                                     (PR.mk (0 : Int) (0 : Int) (ByteArray.mk #[]) false (0 : Int) (ByteArray.mk #[])
                                                      false false)).1
                                                    i).1
                                                   (1 : Int) (ByteArray.mk #[(103 : UInt8)]) (ByteArray.mk #[(99 : UInt8)]) nb).1
                                                  (1 : Int)).1
                                                 (1 : Int) (ByteArray.mk #[(103 : UInt8)]) (ByteArray.mk #[(99 : UInt8)]) nb_1).1,
                                                Ent.mk (Loc.sl ao cap)
                                                 (SObj.vecL (45 : TypeId) 6 encP6 (upto (0 : Int) (List.map (fun (x : Nat × PR) ↦ x.snd) s.2))
                                                  (PR.mk (0 : Int) (0 : Int) (ByteArray.mk #[]) false (0 : Int) (ByteArray.mk #[]) false false)),
                                                Ent.mk (Loc.blk b_1)
                                                 (SObj.cells
                                                  [SV.int IntKind.i64
                                                   (pReap
                                                    (pSpawn
                                                     (pExit s
                                                      (List.getD (upto (0 : Int) (List.map (fun (x : Nat × PR) ↦ x.snd) s.2))
                                                       (Int.toNat
                                                        (IntKind.wrap IntKind.i64
                                                         ((1 : Int) +
                                                          Int.tmod i
                                                           (IntKind.wrap IntKind.i64
                                                            ((↑(List.length
                                                             (upto (0 : Int)
                                                              (List.map (fun (x : Nat × PR) ↦ x.snd) s.2))) :
                                                             Int) -
                                                             (1 : Int))))))
                                                       (PR.mk (0 : Int) (0 : Int) (ByteArray.mk #[]) false (0 : Int)
                                                        (ByteArray.mk #[]) false false)).1
                                                      i).1
                                                     (1 : Int) (ByteArray.mk #[(103 : UInt8)]) (ByteArray.mk #[(99 : UInt8)]) nb).1
                                                    (1 : Int)).2.1.1,
                                                   SV.int IntKind.i64
                                                    (pReap
                                                     (pSpawn
                                                      (pExit s
                                                       (List.getD (upto (0 : Int) (List.map (fun (x : Nat × PR) ↦ x.snd) s.2))
                                                        (Int.toNat
                                                         (IntKind.wrap IntKind.i64
                                                          ((1 : Int) +
                                                           Int.tmod i
                                                            (IntKind.wrap IntKind.i64
                                                             ((↑(List.length
                                                              (upto (0 : Int)
                                                               (List.map (fun (x : Nat × PR) ↦ x.snd) s.2))) :
                                                              Int) -
                                                              (1 : Int))))))
                                                        (PR.mk (0 : Int) (0 : Int) (ByteArray.mk #[]) false (0 : Int)
                                                         (ByteArray.mk #[]) false false)).1
                                                       i).1
                                                      (1 : Int) (ByteArray.mk #[(103 : UInt8)]) (ByteArray.mk #[(99 : UInt8)]) nb).1
                                                     (1 : Int)).2.1.2,
                                                   SV.str
                                                    (pReap
                                                     (pSpawn
                                                      (pExit s
                                                       (List.getD (upto (0 : Int) (List.map (fun (x : Nat × PR) ↦ x.snd) s.2))
                                                        (Int.toNat
                                                         (IntKind.wrap IntKind.i64
                                                          ((1 : Int) +
                                                           Int.tmod i
                                                            (IntKind.wrap IntKind.i64
                                                             ((↑(List.length
                                                              (upto (0 : Int)
                                                               (List.map (fun (x : Nat × PR) ↦ x.snd) s.2))) :
                                                              Int) -
                                                              (1 : Int))))))
                                                        (PR.mk (0 : Int) (0 : Int) (ByteArray.mk #[]) false (0 : Int)
                                                         (ByteArray.mk #[]) false false)).1
                                                       i).1
                                                      (1 : Int) (ByteArray.mk #[(103 : UInt8)]) (ByteArray.mk #[(99 : UInt8)]) nb).1
                                                     (1 : Int)).2.1.3,
                                                   SV.bool
                                                    (pReap
                                                     (pSpawn
                                                      (pExit s
                                                       (List.getD (upto (0 : Int) (List.map (fun (x : Nat × PR) ↦ x.snd) s.2))
                                                        (Int.toNat
                                                         (IntKind.wrap IntKind.i64
                                                          ((1 : Int) +
                                                           Int.tmod i
                                                            (IntKind.wrap IntKind.i64
                                                             ((↑(List.length
                                                              (upto (0 : Int)
                                                               (List.map (fun (x : Nat × PR) ↦ x.snd) s.2))) :
                                                              Int) -
                                                              (1 : Int))))))
                                                        (PR.mk (0 : Int) (0 : Int) (ByteArray.mk #[]) false (0 : Int)
                                                         (ByteArray.mk #[]) false false)).1
                                                       i).1
                                                      (1 : Int) (ByteArray.mk #[(103 : UInt8)]) (ByteArray.mk #[(99 : UInt8)]) nb).1
                                                     (1 : Int)).2.1.4,
                                                   SV.int IntKind.i64
                                                    (pReap
                                                     (pSpawn
                                                      (pExit s
                                                       (List.getD (upto (0 : Int) (List.map (fun (x : Nat × PR) ↦ x.snd) s.2))
                                                        (Int.toNat
                                                         (IntKind.wrap IntKind.i64
                                                          ((1 : Int) +
                                                           Int.tmod i
                                                            (IntKind.wrap IntKind.i64
                                                             ((↑(List.length
                                                              (upto (0 : Int)
                                                               (List.map (fun (x : Nat × PR) ↦ x.snd) s.2))) :
                                                              Int) -
                                                              (1 : Int))))))
                                                        (PR.mk (0 : Int) (0 : Int) (ByteArray.mk #[]) false (0 : Int)
                                                         (ByteArray.mk #[]) false false)).1
                                                       i).1
                                                      (1 : Int) (ByteArray.mk #[(103 : UInt8)]) (ByteArray.mk #[(99 : UInt8)]) nb).1
                                                     (1 : Int)).2.1.5,
                                                   SV.str
                                                    (pReap
                                                     (pSpawn
                                                      (pExit s
                                                       (List.getD (upto (0 : Int) (List.map (fun (x : Nat × PR) ↦ x.snd) s.2))
                                                        (Int.toNat
                                                         (IntKind.wrap IntKind.i64
                                                          ((1 : Int) +
                                                           Int.tmod i
                                                            (IntKind.wrap IntKind.i64
                                                             ((↑(List.length
                                                              (upto (0 : Int)
                                                               (List.map (fun (x : Nat × PR) ↦ x.snd) s.2))) :
                                                              Int) -
                                                              (1 : Int))))))
                                                        (PR.mk (0 : Int) (0 : Int) (ByteArray.mk #[]) false (0 : Int)
                                                         (ByteArray.mk #[]) false false)).1
                                                       i).1
                                                      (1 : Int) (ByteArray.mk #[(103 : UInt8)]) (ByteArray.mk #[(99 : UInt8)]) nb).1
                                                     (1 : Int)).2.1.6]
                                                  45)])
  | false => N [pkA b ptE s] (SV.bool true)
 | false => N [pkA b ptE s] (SV.bool true)) := by kernel_rfl
end Go.Proofs.Ytihajdkipkfiiaa
