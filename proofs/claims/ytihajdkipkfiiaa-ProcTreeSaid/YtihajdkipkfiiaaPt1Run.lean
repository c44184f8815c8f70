import Derived.Test.YtihajdkipkfiiaaPtC
import Derived.Test.YtihajdkipkfiiaaTab
namespace Go.Proofs.Ytihajdkipkfiiaa
set_option linter.unusedVariables false
open Go Go.RowKit
set_option maxHeartbeats 0
set_option maxRecDepth 100000
set_option maxRecDepth 100000

theorem tr_start (K : List Frm → Sy → Prop) (N : List Ent → SV → Prop) (ao : Option Addr) (cap : Nat) (bs : List Int) : (run Try.prog ptTk false [] K (retP Try.prog Try.f4.results.toList N) 1500 [.code (bodyOf Try.f4)] ⟨padTo 192 [.vec 0 ao bs.length cap], [⟨.sl ao cap, .roL 1 encU8 bs 0⟩]⟩) = (
true = true ∧
 match decide ((↑(List.length bs) : Int) > (150 : Int)) with
 | true => N [Ent.mk (Loc.sl ao cap) (SObj.roL 1 encU8 bs (0 : Int))] (SV.bool true)
 | false =>
  true = true ∧
   ∀ (b bm bp : Nat),
    K (frm [] (bodyOf Try.f4) [1, 1, 1, 1, 1, 0, 1, 0] [])
     (Sy.mk
      [SV.vec 0 ao (List.length bs) cap, SV.raw (Value.tuple #[]), SV.bool false, SV.ptr 1 b 0, SV.int IntKind.i64 (1 : Int), SV.int IntKind.i64 (0 : Int),
       SV.raw (Value.tuple #[]), SV.raw (Value.tuple #[]), SV.raw (Value.tuple #[]), SV.raw (Value.tuple #[]), SV.raw (Value.tuple #[]), SV.raw (Value.tuple #[]), SV.raw (Value.tuple #[]),
       SV.raw (Value.tuple #[]), SV.raw (Value.tuple #[]), SV.raw (Value.tuple #[]), SV.raw (Value.tuple #[]), SV.raw (Value.tuple #[]), SV.raw (Value.tuple #[]), SV.bool true, SV.bool false,
       SV.vec 0 ao (List.length bs) cap, SV.int IntKind.i64 (↑(List.length bs) : Int), SV.bool false, SV.ptr 1 b 0, SV.raw (Value.tuple #[]), SV.raw (Value.tuple #[]),
       SV.raw (Value.tuple #[]), SV.raw (Value.tuple #[]), SV.raw (Value.tuple #[]), SV.raw (Value.tuple #[]), SV.raw (Value.tuple #[]), SV.raw (Value.tuple #[]), SV.raw (Value.tuple #[]),
       SV.raw (Value.tuple #[]), SV.raw (Value.tuple #[]), SV.raw (Value.tuple #[]), SV.raw (Value.tuple #[]), SV.raw (Value.tuple #[]), SV.raw (Value.tuple #[]), SV.raw (Value.tuple #[]),
       SV.raw (Value.tuple #[]), SV.raw (Value.tuple #[]), SV.raw (Value.tuple #[]), SV.raw (Value.tuple #[]), SV.raw (Value.tuple #[]), SV.raw (Value.tuple #[]), SV.raw (Value.tuple #[]),
       SV.raw (Value.tuple #[]), SV.raw (Value.tuple #[]), SV.raw (Value.tuple #[]), SV.raw (Value.tuple #[]), SV.raw (Value.tuple #[]), SV.raw (Value.tuple #[]), SV.raw (Value.tuple #[]),
       SV.raw (Value.tuple #[]), SV.raw (Value.tuple #[]), SV.raw (Value.tuple #[]), SV.raw (Value.tuple #[]), SV.raw (Value.tuple #[]), SV.raw (Value.tuple #[]), SV.raw (Value.tuple #[]),
       SV.raw (Value.tuple #[]), SV.raw (Value.tuple #[]), SV.raw (Value.tuple #[]), SV.raw (Value.tuple #[]), SV.raw (Value.tuple #[]), SV.raw (Value.tuple #[]), SV.raw (Value.tuple #[]),
       SV.raw (Value.tuple #[]), SV.raw (Value.tuple #[]), SV.raw (Value.tuple #[]), SV.raw (Value.tuple #[]), SV.raw (Value.tuple #[]), SV.raw (Value.tuple #[]), SV.raw (Value.tuple #[]),
       SV.raw (Value.tuple #[]), SV.raw (Value.tuple #[]), SV.raw (Value.tuple #[]), SV.raw (Value.tuple #[]), SV.raw (Value.tuple #[]), SV.raw (Value.tuple #[]), SV.raw (Value.tuple #[]),
       SV.raw (Value.tuple #[]), SV.raw (Value.tuple #[]), SV.raw (Value.tuple #[]), SV.raw (Value.tuple #[]), SV.raw (Value.tuple #[]), SV.raw (Value.tuple #[]), SV.raw (Value.tuple #[]),
       SV.raw (Value.tuple #[]), SV.raw (Value.tuple #[]), SV.raw (Value.tuple #[]), SV.raw (Value.tuple #[]), SV.raw (Value.tuple #[]), SV.raw (Value.tuple #[]), SV.raw (Value.tuple #[]),
       SV.raw (Value.tuple #[]), SV.raw (Value.tuple #[]), SV.raw (Value.tuple #[]), SV.raw (Value.tuple #[]), SV.raw (Value.tuple #[]), SV.raw (Value.tuple #[]), SV.raw (Value.tuple #[]),
       SV.raw (Value.tuple #[]), SV.raw (Value.tuple #[]), SV.raw (Value.tuple #[]), SV.raw (Value.tuple #[]), SV.raw (Value.tuple #[]), SV.raw (Value.tuple #[]), SV.raw (Value.tuple #[]),
       SV.raw (Value.tuple #[]), SV.raw (Value.tuple #[]), SV.raw (Value.tuple #[]), SV.raw (Value.tuple #[]), SV.raw (Value.tuple #[]), SV.raw (Value.tuple #[]), SV.raw (Value.tuple #[]),
       SV.raw (Value.tuple #[]), SV.raw (Value.tuple #[]), SV.raw (Value.tuple #[]), SV.raw (Value.tuple #[]), SV.raw (Value.tuple #[]), SV.raw (Value.tuple #[]), SV.raw (Value.tuple #[]),
       SV.raw (Value.tuple #[]), SV.raw (Value.tuple #[]), SV.raw (Value.tuple #[]), SV.raw (Value.tuple #[]), SV.raw (Value.tuple #[]), SV.raw (Value.tuple #[]), SV.raw (Value.tuple #[]),
       SV.raw (Value.tuple #[]), SV.raw (Value.tuple #[]), SV.raw (Value.tuple #[]), SV.raw (Value.tuple #[]), SV.raw (Value.tuple #[]), SV.raw (Value.tuple #[]), SV.raw (Value.tuple #[]),
       SV.raw (Value.tuple #[]), SV.raw (Value.tuple #[]), SV.raw (Value.tuple #[]), SV.raw (Value.tuple #[]), SV.raw (Value.tuple #[]), SV.raw (Value.tuple #[]), SV.raw (Value.tuple #[]),
       SV.raw (Value.tuple #[]), SV.raw (Value.tuple #[]), SV.raw (Value.tuple #[]), SV.raw (Value.tuple #[]), SV.raw (Value.tuple #[]), SV.raw (Value.tuple #[]), SV.raw (Value.tuple #[]),
       SV.raw (Value.tuple #[]), SV.raw (Value.tuple #[]), SV.raw (Value.tuple #[]), SV.raw (Value.tuple #[]), SV.raw (Value.tuple #[]), SV.raw (Value.tuple #[]), SV.raw (Value.tuple #[]),
       SV.raw (Value.tuple #[]), SV.raw (Value.tuple #[]), SV.raw (Value.tuple #[]), SV.raw (Value.tuple #[]), SV.raw (Value.tuple #[]), SV.raw (Value.tuple #[]), SV.raw (Value.tuple #[]),
       SV.raw (Value.tuple #[]), SV.raw (Value.tuple #[]), SV.raw (Value.tuple #[]), SV.raw (Value.tuple #[]), SV.raw (Value.tuple #[]), SV.raw (Value.tuple #[]), SV.raw (Value.tuple #[]),
       SV.raw (Value.tuple #[]), SV.raw (Value.tuple #[]), SV.raw (Value.tuple #[]), SV.raw (Value.tuple #[]), SV.raw (Value.tuple #[]), SV.raw (Value.tuple #[]), SV.raw (Value.tuple #[]),
       SV.raw (Value.tuple #[]), SV.raw (Value.tuple #[]), SV.raw (Value.tuple #[]), SV.raw (Value.tuple #[]), SV.raw (Value.tuple #[]), SV.raw (Value.tuple #[]), SV.raw (Value.tuple #[]),
       SV.raw (Value.tuple #[]), SV.raw (Value.tuple #[]), SV.raw (Value.tuple #[]), SV.raw (Value.tuple #[])]
      [Ent.mk (Loc.sl ao cap) (SObj.roL 1 encU8 bs (0 : Int)), pkA b ptE (pNew (40 : Int) bm bp)])) := by kernel_rfl


theorem tr_l1 (K : List Frm → Sy → Prop) (N : List Ent → SV → Prop) (J : Act → World → Prop) (ao : Option Addr) (cap : Nat) (bs : List Int) (b : Nat) (s : PT) (last i : Int) (u : Nat → Value) : (run Try.prog ptTk false [28] K (retP Try.prog Try.f4.results.toList N) 1500 (frm [J] (bodyOf Try.f4) [1, 1, 1, 1, 1, 0, 1, 0, 0] []) ⟨mkT u 192 0 [(0, .vec 0 ao bs.length cap), (3, .ptr 1 b 0), (4, .int .i64 last), (5, .int .i64 i)], [⟨.sl ao cap, .roL 1 encU8 bs 0⟩, pkA b ptE s]⟩) = (
match decide (i < (↑(List.length bs) : Int)) with
| true =>
 (ao = ao ∧ cap = cap ∧ List.length bs = List.length bs ∧ (0 : Int) ≤ i ∧ i < (↑(List.length bs) : Int)) ∧
  (Addr.blkD ao = Addr.blkD ao ∧ Addr.offD ao = Addr.offD ao ∧ 1 = 1 ∧ Int.toNat i < List.length bs) ∧
   (4 : Int) ≠ (0 : Int) ∧
    IntKind.wrap IntKind.i64 (last + (1 : Int)) ≠ (0 : Int) ∧
     (ao = ao ∧ cap = cap ∧ List.length bs = List.length bs ∧ (0 : Int) ≤ i ∧ i < (↑(List.length bs) : Int)) ∧
      (Addr.blkD ao = Addr.blkD ao ∧ Addr.offD ao = Addr.offD ao ∧ 1 = 1 ∧ Int.toNat i < List.length bs) ∧
       (4 : Int) ≠ (0 : Int) ∧
        match Int.tmod (List.getD bs (Int.toNat i) (0 : Int)) (4 : Int) == (0 : Int) with
        | true =>
         true = true ∧
          b = b ∧
           ∃ (h : PT = PT),
            AdtIs (fun (s : PT) (b : Nat) ↦ packs (ptE s b)) ptE ∧
             pOk s ∧
              ∀ (nb : Nat),
               match (pSpawn s (1 : Int) (ByteArray.mk #[(103 : UInt8)]) (ByteArray.mk #[(99 : UInt8)]) nb).2.2 == (0 : Int) with
               | true =>
                match (pSpawn s (1 : Int) (ByteArray.mk #[(103 : UInt8)]) (ByteArray.mk #[(99 : UInt8)]) nb).2.1 != IntKind.wrap IntKind.i64 (last + (1 : Int)) with
                | true =>
                 true = true ∧
                  true = true ∧
                   N
                    [Ent.mk (Loc.sl ao cap) (SObj.roL 1 encU8 bs (0 : Int)),
                     pkA b ptE (pSpawn s (1 : Int) (ByteArray.mk #[(103 : UInt8)]) (ByteArray.mk #[(99 : UInt8)]) nb).1]
                    (SV.bool false)
                | false =>
                 match (pSpawn s (1 : Int) (ByteArray.mk #[(103 : UInt8)]) (ByteArray.mk #[(99 : UInt8)]) nb).2.2 != (0 : Int) with
                 | true =>
                  match (pSpawn s (1 : Int) (ByteArray.mk #[(103 : UInt8)]) (ByteArray.mk #[(99 : UInt8)]) nb).2.2 != (81 : Int) with
                  | true =>
                   N
                    [Ent.mk (Loc.sl ao cap) (SObj.roL 1 encU8 bs (0 : Int)),
                     pkA b ptE (pSpawn s (1 : Int) (ByteArray.mk #[(103 : UInt8)]) (ByteArray.mk #[(99 : UInt8)]) nb).1]
                    (SV.bool false)
                  | false =>
                   K (frmR [J] (bodyOf Try.f4) 28)
                    (Sy.mk
                     [SV.vec 0 ao (List.length bs) cap, SV.raw (u 1), SV.raw (u 2), SV.ptr 1 b 0,
                      SV.int IntKind.i64 (mxI last (pSpawn s (1 : Int) (ByteArray.mk #[(103 : UInt8)]) (ByteArray.mk #[(99 : UInt8)]) nb).2.1), SV.int IntKind.i64 i,
                      SV.int IntKind.i64
                       (IntKind.wrap IntKind.i64
                        (Int.tmod (IntKind.wrap IntKind.i64 (IntKind.wrap IntKind.u8 (Int.tdiv (List.getD bs (Int.toNat i) (0 : Int)) (4 : Int))))
                         (IntKind.wrap IntKind.i64 (last + (1 : Int))) +
                         (1 : Int))),
                      SV.int IntKind.i64 (pSpawn s (1 : Int) (ByteArray.mk #[(103 : UInt8)]) (ByteArray.mk #[(99 : UInt8)]) nb).2.1,
                      SV.int IntKind.i64 (pSpawn s (1 : Int) (ByteArray.mk #[(103 : UInt8)]) (ByteArray.mk #[(99 : UInt8)]) nb).2.2, SV.raw (u 9), SV.raw (u 10),
                      SV.raw (u 11), SV.raw (u 12), SV.raw (u 13), SV.raw (u 14), SV.raw (u 15), SV.raw (u 16),
                      SV.raw (u 17), SV.raw (u 18), SV.raw (u 19), SV.raw (u 20), SV.raw (u 21), SV.raw (u 22),
                      SV.raw (u 23), SV.raw (u 24), SV.int IntKind.i64 i, SV.vec 0 ao (List.length bs) cap, SV.int IntKind.i64 (↑(List.length bs) : Int),
                      SV.bool true, SV.raw (u 29), SV.raw (u 30), SV.vec 0 ao (List.length bs) cap, SV.int IntKind.i64 i,
                      SV.eptr 0 (Addr.blkD ao) (Addr.offD ao) 1 (Int.toNat i) 0, SV.int IntKind.u8 (List.getD bs (Int.toNat i) (0 : Int)),
                      SV.int IntKind.u8 (IntKind.wrap IntKind.u8 (Int.tdiv (List.getD bs (Int.toNat i) (0 : Int)) (4 : Int))),
                      SV.int IntKind.i64 (IntKind.wrap IntKind.i64 (IntKind.wrap IntKind.u8 (Int.tdiv (List.getD bs (Int.toNat i) (0 : Int)) (4 : Int)))),
                      SV.int IntKind.i64 last, SV.int IntKind.i64 (IntKind.wrap IntKind.i64 (last + (1 : Int))),
                      SV.int IntKind.i64
                       (Int.tmod (IntKind.wrap IntKind.i64 (IntKind.wrap IntKind.u8 (Int.tdiv (List.getD bs (Int.toNat i) (0 : Int)) (4 : Int))))
                        (IntKind.wrap IntKind.i64 (last + (1 : Int)))),
                      SV.int IntKind.i64
                       (IntKind.wrap IntKind.i64
                        (Int.tmod (IntKind.wrap IntKind.i64 (IntKind.wrap IntKind.u8 (Int.tdiv (List.getD bs (Int.toNat i) (0 : Int)) (4 : Int))))
                         (IntKind.wrap IntKind.i64 (last + (1 : Int))) +
                         (1 : Int))),
                      SV.vec 0 ao (List.length bs) cap, SV.int IntKind.i64 i, SV.eptr 0 (Addr.blkD ao) (Addr.offD ao) 1 (Int.toNat i) 0,
                      SV.int IntKind.u8 (List.getD bs (Int.toNat i) (0 : Int)), SV.int IntKind.u8 (Int.tmod (List.getD bs (Int.toNat i) (0 : Int)) (4 : Int)),
                      SV.raw (u 46), SV.raw (u 47), SV.raw (u 48), SV.raw (u 49), SV.raw (u 50), SV.raw (u 51),
                      SV.raw (u 52), SV.raw (u 53), SV.raw (u 54), SV.raw (u 55), SV.raw (u 56), SV.raw (u 57),
                      SV.raw (u 58), SV.raw (u 59), SV.raw (u 60), SV.raw (u 61), SV.raw (u 62), SV.raw (u 63),
                      SV.raw (u 64), SV.raw (u 65), SV.raw (u 66), SV.raw (u 67), SV.raw (u 68), SV.raw (u 69),
                      SV.raw (u 70), SV.raw (u 71), SV.raw (u 72), SV.bool true,
                      SV.bool (Int.tmod (List.getD bs (Int.toNat i) (0 : Int)) (4 : Int) == (0 : Int)),
                      SV.tuple
                       [SV.int IntKind.i64 (pSpawn s (1 : Int) (ByteArray.mk #[(103 : UInt8)]) (ByteArray.mk #[(99 : UInt8)]) nb).2.1,
                        SV.int IntKind.i64 (pSpawn s (1 : Int) (ByteArray.mk #[(103 : UInt8)]) (ByteArray.mk #[(99 : UInt8)]) nb).2.2],
                      SV.ptr 1 b 0,
                      SV.tuple
                       [SV.int IntKind.i64 (pSpawn s (1 : Int) (ByteArray.mk #[(103 : UInt8)]) (ByteArray.mk #[(99 : UInt8)]) nb).2.1,
                        SV.int IntKind.i64 (pSpawn s (1 : Int) (ByteArray.mk #[(103 : UInt8)]) (ByteArray.mk #[(99 : UInt8)]) nb).2.2],
                      SV.int IntKind.i64 (pSpawn s (1 : Int) (ByteArray.mk #[(103 : UInt8)]) (ByteArray.mk #[(99 : UInt8)]) nb).2.1,
                      SV.int IntKind.i64 (pSpawn s (1 : Int) (ByteArray.mk #[(103 : UInt8)]) (ByteArray.mk #[(99 : UInt8)]) nb).2.2,
                      SV.int IntKind.i64 (pSpawn s (1 : Int) (ByteArray.mk #[(103 : UInt8)]) (ByteArray.mk #[(99 : UInt8)]) nb).2.2,
                      SV.bool ((pSpawn s (1 : Int) (ByteArray.mk #[(103 : UInt8)]) (ByteArray.mk #[(99 : UInt8)]) nb).2.2 == (0 : Int)), SV.bool true,
                      SV.int IntKind.i64 (pSpawn s (1 : Int) (ByteArray.mk #[(103 : UInt8)]) (ByteArray.mk #[(99 : UInt8)]) nb).2.1, SV.int IntKind.i64 last,
                      SV.int IntKind.i64 (IntKind.wrap IntKind.i64 (last + (1 : Int))),
                      SV.bool ((pSpawn s (1 : Int) (ByteArray.mk #[(103 : UInt8)]) (ByteArray.mk #[(99 : UInt8)]) nb).2.1 != IntKind.wrap IntKind.i64 (last + (1 : Int))),
                      SV.bool ((pSpawn s (1 : Int) (ByteArray.mk #[(103 : UInt8)]) (ByteArray.mk #[(99 : UInt8)]) nb).2.1 != IntKind.wrap IntKind.i64 (last + (1 : Int))),
                      SV.bool false, SV.int IntKind.i64 (pSpawn s (1 : Int) (ByteArray.mk #[(103 : UInt8)]) (ByteArray.mk #[(99 : UInt8)]) nb).2.2,
                      SV.bool ((pSpawn s (1 : Int) (ByteArray.mk #[(103 : UInt8)]) (ByteArray.mk #[(99 : UInt8)]) nb).2.2 != (0 : Int)), SV.bool true,
                      SV.int IntKind.i64 (pSpawn s (1 : Int) (ByteArray.mk #[(103 : UInt8)]) (ByteArray.mk #[(99 : UInt8)]) nb).2.2,
                      SV.bool ((pSpawn s (1 : Int) (ByteArray.mk #[(103 : UInt8)]) (ByteArray.mk #[(99 : UInt8)]) nb).2.2 != (81 : Int)),
                      SV.bool ((pSpawn s (1 : Int) (ByteArray.mk #[(103 : UInt8)]) (ByteArray.mk #[(99 : UInt8)]) nb).2.2 != (81 : Int)), SV.bool false, SV.int IntKind.i64 last,
                      SV.int IntKind.i64 (pSpawn s (1 : Int) (ByteArray.mk #[(103 : UInt8)]) (ByteArray.mk #[(99 : UInt8)]) nb).2.1,
                      SV.int IntKind.i64 (mxI last (pSpawn s (1 : Int) (ByteArray.mk #[(103 : UInt8)]) (ByteArray.mk #[(99 : UInt8)]) nb).2.1), SV.raw (u 99),
                      SV.raw (u 100), SV.raw (u 101), SV.raw (u 102), SV.raw (u 103), SV.raw (u 104), SV.raw (u 105),
                      SV.raw (u 106), SV.raw (u 107), SV.raw (u 108), SV.raw (u 109), SV.raw (u 110), SV.raw (u 111),
                      SV.raw (u 112), SV.raw (u 113), SV.raw (u 114), SV.raw (u 115), SV.raw (u 116), SV.raw (u 117),
                      SV.raw (u 118), SV.raw (u 119), SV.raw (u 120), SV.raw (u 121), SV.raw (u 122), SV.raw (u 123),
                      SV.raw (u 124), SV.raw (u 125), SV.raw (u 126), SV.raw (u 127), SV.raw (u 128), SV.raw (u 129),
                      SV.raw (u 130), SV.raw (u 131), SV.raw (u 132), SV.raw (u 133), SV.raw (u 134), SV.raw (u 135),
                      SV.raw (u 136), SV.raw (u 137), SV.raw (u 138), SV.raw (u 139), SV.raw (u 140), SV.raw (u 141),
                      SV.raw (u 142), SV.raw (u 143), SV.raw (u 144), SV.raw (u 145), SV.raw (u 146), SV.raw (u 147),
                      SV.raw (u 148), SV.raw (u 149), SV.raw (u 150), SV.raw (u 151), SV.raw (u 152), SV.raw (u 153),
                      SV.raw (u 154), SV.raw (u 155), SV.raw (u 156), SV.raw (u 157), SV.raw (u 158), SV.raw (u 159),
                      SV.raw (u 160), SV.raw (u 161), SV.raw (u 162), SV.raw (u 163), SV.raw (u 164), SV.raw (u 165),
                      SV.raw (u 166), SV.raw (u 167), SV.raw (u 168), SV.raw (u 169), SV.raw (u 170), SV.raw (u 171),
                      SV.raw (u 172), SV.raw (u 173), SV.raw (u 174), SV.raw (u 175), SV.raw (u 176), SV.raw (u 177),
                      SV.raw (u 178), SV.raw (u 179), SV.raw (u 180), SV.raw (u 181), SV.raw (u 182), SV.raw (u 183),
                      SV.raw (u 184), SV.raw (u 185), SV.raw (u 186), SV.raw (u 187), SV.raw (u 188), SV.raw (u 189),
                      SV.raw (u 190), SV.raw (u 191)]
                     [Ent.mk (Loc.sl ao cap) (SObj.roL 1 encU8 bs (0 : Int)),
                      pkA b ptE (pSpawn s (1 : Int) (ByteArray.mk #[(103 : UInt8)]) (ByteArray.mk #[(99 : UInt8)]) nb).1])
                 | false =>
                  K (frmR [J] (bodyOf Try.f4) 28)
                   (Sy.mk
                    [SV.vec 0 ao (List.length bs) cap, SV.raw (u 1), SV.raw (u 2), SV.ptr 1 b 0,
                     SV.int IntKind.i64 (mxI last (pSpawn s (1 : Int) (ByteArray.mk #[(103 : UInt8)]) (ByteArray.mk #[(99 : UInt8)]) nb).2.1), SV.int IntKind.i64 i,
                     SV.int IntKind.i64
                      (IntKind.wrap IntKind.i64
                       (Int.tmod (IntKind.wrap IntKind.i64 (IntKind.wrap IntKind.u8 (Int.tdiv (List.getD bs (Int.toNat i) (0 : Int)) (4 : Int))))
                        (IntKind.wrap IntKind.i64 (last + (1 : Int))) +
                        (1 : Int))),
                     SV.int IntKind.i64 (pSpawn s (1 : Int) (ByteArray.mk #[(103 : UInt8)]) (ByteArray.mk #[(99 : UInt8)]) nb).2.1,
                     SV.int IntKind.i64 (pSpawn s (1 : Int) (ByteArray.mk #[(103 : UInt8)]) (ByteArray.mk #[(99 : UInt8)]) nb).2.2, SV.raw (u 9), SV.raw (u 10),
                     SV.raw (u 11), SV.raw (u 12), SV.raw (u 13), SV.raw (u 14), SV.raw (u 15), SV.raw (u 16),
                     SV.raw (u 17), SV.raw (u 18), SV.raw (u 19), SV.raw (u 20), SV.raw (u 21), SV.raw (u 22),
                     SV.raw (u 23), SV.raw (u 24), SV.int IntKind.i64 i, SV.vec 0 ao (List.length bs) cap, SV.int IntKind.i64 (↑(List.length bs) : Int),
                     SV.bool true, SV.raw (u 29), SV.raw (u 30), SV.vec 0 ao (List.length bs) cap, SV.int IntKind.i64 i,
                     SV.eptr 0 (Addr.blkD ao) (Addr.offD ao) 1 (Int.toNat i) 0, SV.int IntKind.u8 (List.getD bs (Int.toNat i) (0 : Int)),
                     SV.int IntKind.u8 (IntKind.wrap IntKind.u8 (Int.tdiv (List.getD bs (Int.toNat i) (0 : Int)) (4 : Int))),
                     SV.int IntKind.i64 (IntKind.wrap IntKind.i64 (IntKind.wrap IntKind.u8 (Int.tdiv (List.getD bs (Int.toNat i) (0 : Int)) (4 : Int)))), SV.int IntKind.i64 last,
                     SV.int IntKind.i64 (IntKind.wrap IntKind.i64 (last + (1 : Int))),
                     SV.int IntKind.i64
                      (Int.tmod (IntKind.wrap IntKind.i64 (IntKind.wrap IntKind.u8 (Int.tdiv (List.getD bs (Int.toNat i) (0 : Int)) (4 : Int))))
                       (IntKind.wrap IntKind.i64 (last + (1 : Int)))),
                     SV.int IntKind.i64
                      (IntKind.wrap IntKind.i64
                       (Int.tmod (IntKind.wrap IntKind.i64 (IntKind.wrap IntKind.u8 (Int.tdiv (List.getD bs (Int.toNat i) (0 : Int)) (4 : Int))))
                        (IntKind.wrap IntKind.i64 (last + (1 : Int))) +
                        (1 : Int))),
                     SV.vec 0 ao (List.length bs) cap, SV.int IntKind.i64 i, SV.eptr 0 (Addr.blkD ao) (Addr.offD ao) 1 (Int.toNat i) 0,
                     SV.int IntKind.u8 (List.getD bs (Int.toNat i) (0 : Int)), SV.int IntKind.u8 (Int.tmod (List.getD bs (Int.toNat i) (0 : Int)) (4 : Int)),
                     SV.raw (u 46), SV.raw (u 47), SV.raw (u 48), SV.raw (u 49), SV.raw (u 50), SV.raw (u 51),
                     SV.raw (u 52), SV.raw (u 53), SV.raw (u 54), SV.raw (u 55), SV.raw (u 56), SV.raw (u 57),
                     SV.raw (u 58), SV.raw (u 59), SV.raw (u 60), SV.raw (u 61), SV.raw (u 62), SV.raw (u 63),
                     SV.raw (u 64), SV.raw (u 65), SV.raw (u 66), SV.raw (u 67), SV.raw (u 68), SV.raw (u 69),
                     SV.raw (u 70), SV.raw (u 71), SV.raw (u 72), SV.bool true,
                     SV.bool (Int.tmod (List.getD bs (Int.toNat i) (0 : Int)) (4 : Int) == (0 : Int)),
                     SV.tuple
                      [SV.int IntKind.i64 (pSpawn s (1 : Int) (ByteArray.mk #[(103 : UInt8)]) (ByteArray.mk #[(99 : UInt8)]) nb).2.1,
                       SV.int IntKind.i64 (pSpawn s (1 : Int) (ByteArray.mk #[(103 : UInt8)]) (ByteArray.mk #[(99 : UInt8)]) nb).2.2],
                     SV.ptr 1 b 0,
                     SV.tuple
                      [SV.int IntKind.i64 (pSpawn s (1 : Int) (ByteArray.mk #[(103 : UInt8)]) (ByteArray.mk #[(99 : UInt8)]) nb).2.1,
                       SV.int IntKind.i64 (pSpawn s (1 : Int) (ByteArray.mk #[(103 : UInt8)]) (ByteArray.mk #[(99 : UInt8)]) nb).2.2],
                     SV.int IntKind.i64 (pSpawn s (1 : Int) (ByteArray.mk #[(103 : UInt8)]) (ByteArray.mk #[(99 : UInt8)]) nb).2.1,
                     SV.int IntKind.i64 (pSpawn s (1 : Int) (ByteArray.mk #[(103 : UInt8)]) (ByteArray.mk #[(99 : UInt8)]) nb).2.2,
                     SV.int IntKind.i64 (pSpawn s (1 : Int) (ByteArray.mk #[(103 : UInt8)]) (ByteArray.mk #[(99 : UInt8)]) nb).2.2,
                     SV.bool ((pSpawn s (1 : Int) (ByteArray.mk #[(103 : UInt8)]) (ByteArray.mk #[(99 : UInt8)]) nb).2.2 == (0 : Int)), SV.bool true,
                     SV.int IntKind.i64 (pSpawn s (1 : Int) (ByteArray.mk #[(103 : UInt8)]) (ByteArray.mk #[(99 : UInt8)]) nb).2.1, SV.int IntKind.i64 last,
                     SV.int IntKind.i64 (IntKind.wrap IntKind.i64 (last + (1 : Int))),
                     SV.bool ((pSpawn s (1 : Int) (ByteArray.mk #[(103 : UInt8)]) (ByteArray.mk #[(99 : UInt8)]) nb).2.1 != IntKind.wrap IntKind.i64 (last + (1 : Int))),
                     SV.bool ((pSpawn s (1 : Int) (ByteArray.mk #[(103 : UInt8)]) (ByteArray.mk #[(99 : UInt8)]) nb).2.1 != IntKind.wrap IntKind.i64 (last + (1 : Int))),
                     SV.bool false, SV.int IntKind.i64 (pSpawn s (1 : Int) (ByteArray.mk #[(103 : UInt8)]) (ByteArray.mk #[(99 : UInt8)]) nb).2.2,
                     SV.bool ((pSpawn s (1 : Int) (ByteArray.mk #[(103 : UInt8)]) (ByteArray.mk #[(99 : UInt8)]) nb).2.2 != (0 : Int)), SV.bool false, SV.raw (Value.tuple #[]),
                     SV.raw (Value.tuple #[]), SV.bool false, SV.bool false, SV.int IntKind.i64 last,
                     SV.int IntKind.i64 (pSpawn s (1 : Int) (ByteArray.mk #[(103 : UInt8)]) (ByteArray.mk #[(99 : UInt8)]) nb).2.1,
                     SV.int IntKind.i64 (mxI last (pSpawn s (1 : Int) (ByteArray.mk #[(103 : UInt8)]) (ByteArray.mk #[(99 : UInt8)]) nb).2.1), SV.raw (u 99),
                     SV.raw (u 100), SV.raw (u 101), SV.raw (u 102), SV.raw (u 103), SV.raw (u 104), SV.raw (u 105),
                     SV.raw (u 106), SV.raw (u 107), SV.raw (u 108), SV.raw (u 109), SV.raw (u 110), SV.raw (u 111),
                     SV.raw (u 112), SV.raw (u 113), SV.raw (u 114), SV.raw (u 115), SV.raw (u 116), SV.raw (u 117),
                     SV.raw (u 118), SV.raw (u 119), SV.raw (u 120), SV.raw (u 121), SV.raw (u 122), SV.raw (u 123),
                     SV.raw (u 124), SV.raw (u 125), SV.raw (u 126), SV.raw (u 127), SV.raw (u 128), SV.raw (u 129),
                     SV.raw (u 130), SV.raw (u 131), SV.raw (u 132), SV.raw (u 133), SV.raw (u 134), SV.raw (u 135),
                     SV.raw (u 136), SV.raw (u 137), SV.raw (u 138), SV.raw (u 139), SV.raw (u 140), SV.raw (u 141),
                     SV.raw (u 142), SV.raw (u 143), SV.raw (u 144), SV.raw (u 145), SV.raw (u 146), SV.raw (u 147),
                     SV.raw (u 148), SV.raw (u 149), SV.raw (u 150), SV.raw (u 151), SV.raw (u 152), SV.raw (u 153),
                     SV.raw (u 154), SV.raw (u 155), SV.raw (u 156), SV.raw (u 157), SV.raw (u 158), SV.raw (u 159),
                     SV.raw (u 160), SV.raw (u 161), SV.raw (u 162), SV.raw (u 163), SV.raw (u 164), SV.raw (u 165),
                     SV.raw (u 166), SV.raw (u 167), SV.raw (u 168), SV.raw (u 169), SV.raw (u 170), SV.raw (u 171),
                     SV.raw (u 172), SV.raw (u 173), SV.raw (u 174), SV.raw (u 175), SV.raw (u 176), SV.raw (u 177),
                     SV.raw (u 178), SV.raw (u 179), SV.raw (u 180), SV.raw (u 181), SV.raw (u 182), SV.raw (u 183),
                     SV.raw (u 184), SV.raw (u 185), SV.raw (u 186), SV.raw (u 187), SV.raw (u 188), SV.raw (u 189),
                     SV.raw (u 190), SV.raw (u 191)]
                    [Ent.mk (Loc.sl ao cap) (SObj.roL 1 encU8 bs (0 : Int)),
                     pkA b ptE (pSpawn s (1 : Int) (ByteArray.mk #[(103 : UInt8)]) (ByteArray.mk #[(99 : UInt8)]) nb).1])
               | false =>
                match (pSpawn s (1 : Int) (ByteArray.mk #[(103 : UInt8)]) (ByteArray.mk #[(99 : UInt8)]) nb).2.2 != (0 : Int) with
                | true =>
                 match (pSpawn s (1 : Int) (ByteArray.mk #[(103 : UInt8)]) (ByteArray.mk #[(99 : UInt8)]) nb).2.2 != (81 : Int) with
                 | true =>
                  N
                   [Ent.mk (Loc.sl ao cap) (SObj.roL 1 encU8 bs (0 : Int)),
                    pkA b ptE (pSpawn s (1 : Int) (ByteArray.mk #[(103 : UInt8)]) (ByteArray.mk #[(99 : UInt8)]) nb).1]
                   (SV.bool false)
                 | false =>
                  K (frmR [J] (bodyOf Try.f4) 28)
                   (Sy.mk
                    [SV.vec 0 ao (List.length bs) cap, SV.raw (u 1), SV.raw (u 2), SV.ptr 1 b 0,
                     SV.int IntKind.i64 (mxI last (pSpawn s (1 : Int) (ByteArray.mk #[(103 : UInt8)]) (ByteArray.mk #[(99 : UInt8)]) nb).2.1), SV.int IntKind.i64 i,
                     SV.int IntKind.i64
                      (IntKind.wrap IntKind.i64
                       (Int.tmod (IntKind.wrap IntKind.i64 (IntKind.wrap IntKind.u8 (Int.tdiv (List.getD bs (Int.toNat i) (0 : Int)) (4 : Int))))
                        (IntKind.wrap IntKind.i64 (last + (1 : Int))) +
                        (1 : Int))),
                     SV.int IntKind.i64 (pSpawn s (1 : Int) (ByteArray.mk #[(103 : UInt8)]) (ByteArray.mk #[(99 : UInt8)]) nb).2.1,
                     SV.int IntKind.i64 (pSpawn s (1 : Int) (ByteArray.mk #[(103 : UInt8)]) (ByteArray.mk #[(99 : UInt8)]) nb).2.2, SV.raw (u 9), SV.raw (u 10),
                     SV.raw (u 11), SV.raw (u 12), SV.raw (u 13), SV.raw (u 14), SV.raw (u 15), SV.raw (u 16),
                     SV.raw (u 17), SV.raw (u 18), SV.raw (u 19), SV.raw (u 20), SV.raw (u 21), SV.raw (u 22),
                     SV.raw (u 23), SV.raw (u 24), SV.int IntKind.i64 i, SV.vec 0 ao (List.length bs) cap, SV.int IntKind.i64 (↑(List.length bs) : Int),
                     SV.bool true, SV.raw (u 29), SV.raw (u 30), SV.vec 0 ao (List.length bs) cap, SV.int IntKind.i64 i,
                     SV.eptr 0 (Addr.blkD ao) (Addr.offD ao) 1 (Int.toNat i) 0, SV.int IntKind.u8 (List.getD bs (Int.toNat i) (0 : Int)),
                     SV.int IntKind.u8 (IntKind.wrap IntKind.u8 (Int.tdiv (List.getD bs (Int.toNat i) (0 : Int)) (4 : Int))),
                     SV.int IntKind.i64 (IntKind.wrap IntKind.i64 (IntKind.wrap IntKind.u8 (Int.tdiv (List.getD bs (Int.toNat i) (0 : Int)) (4 : Int)))), SV.int IntKind.i64 last,
                     SV.int IntKind.i64 (IntKind.wrap IntKind.i64 (last + (1 : Int))),
                     SV.int IntKind.i64
                      (Int.tmod (IntKind.wrap IntKind.i64 (IntKind.wrap IntKind.u8 (Int.tdiv (List.getD bs (Int.toNat i) (0 : Int)) (4 : Int))))
                       (IntKind.wrap IntKind.i64 (last + (1 : Int)))),
                     SV.int IntKind.i64
                      (IntKind.wrap IntKind.i64
                       (Int.tmod (IntKind.wrap IntKind.i64 (IntKind.wrap IntKind.u8 (Int.tdiv (List.getD bs (Int.toNat i) (0 : Int)) (4 : Int))))
                        (IntKind.wrap IntKind.i64 (last + (1 : Int))) +
                        (1 : Int))),
                     SV.vec 0 ao (List.length bs) cap, SV.int IntKind.i64 i, SV.eptr 0 (Addr.blkD ao) (Addr.offD ao) 1 (Int.toNat i) 0,
                     SV.int IntKind.u8 (List.getD bs (Int.toNat i) (0 : Int)), SV.int IntKind.u8 (Int.tmod (List.getD bs (Int.toNat i) (0 : Int)) (4 : Int)),
                     SV.raw (u 46), SV.raw (u 47), SV.raw (u 48), SV.raw (u 49), SV.raw (u 50), SV.raw (u 51),
                     SV.raw (u 52), SV.raw (u 53), SV.raw (u 54), SV.raw (u 55), SV.raw (u 56), SV.raw (u 57),
                     SV.raw (u 58), SV.raw (u 59), SV.raw (u 60), SV.raw (u 61), SV.raw (u 62), SV.raw (u 63),
                     SV.raw (u 64), SV.raw (u 65), SV.raw (u 66), SV.raw (u 67), SV.raw (u 68), SV.raw (u 69),
                     SV.raw (u 70), SV.raw (u 71), SV.raw (u 72), SV.bool true,
                     SV.bool (Int.tmod (List.getD bs (Int.toNat i) (0 : Int)) (4 : Int) == (0 : Int)),
                     SV.tuple
                      [SV.int IntKind.i64 (pSpawn s (1 : Int) (ByteArray.mk #[(103 : UInt8)]) (ByteArray.mk #[(99 : UInt8)]) nb).2.1,
                       SV.int IntKind.i64 (pSpawn s (1 : Int) (ByteArray.mk #[(103 : UInt8)]) (ByteArray.mk #[(99 : UInt8)]) nb).2.2],
                     SV.ptr 1 b 0,
                     SV.tuple
                      [SV.int IntKind.i64 (pSpawn s (1 : Int) (ByteArray.mk #[(103 : UInt8)]) (ByteArray.mk #[(99 : UInt8)]) nb).2.1,
                       SV.int IntKind.i64 (pSpawn s (1 : Int) (ByteArray.mk #[(103 : UInt8)]) (ByteArray.mk #[(99 : UInt8)]) nb).2.2],
                     SV.int IntKind.i64 (pSpawn s (1 : Int) (ByteArray.mk #[(103 : UInt8)]) (ByteArray.mk #[(99 : UInt8)]) nb).2.1,
                     SV.int IntKind.i64 (pSpawn s (1 : Int) (ByteArray.mk #[(103 : UInt8)]) (ByteArray.mk #[(99 : UInt8)]) nb).2.2,
                     SV.int IntKind.i64 (pSpawn s (1 : Int) (ByteArray.mk #[(103 : UInt8)]) (ByteArray.mk #[(99 : UInt8)]) nb).2.2,
                     SV.bool ((pSpawn s (1 : Int) (ByteArray.mk #[(103 : UInt8)]) (ByteArray.mk #[(99 : UInt8)]) nb).2.2 == (0 : Int)), SV.bool false, SV.raw (Value.tuple #[]),
                     SV.raw (Value.tuple #[]), SV.raw (Value.tuple #[]), SV.raw (Value.tuple #[]), SV.bool false, SV.bool false,
                     SV.int IntKind.i64 (pSpawn s (1 : Int) (ByteArray.mk #[(103 : UInt8)]) (ByteArray.mk #[(99 : UInt8)]) nb).2.2,
                     SV.bool ((pSpawn s (1 : Int) (ByteArray.mk #[(103 : UInt8)]) (ByteArray.mk #[(99 : UInt8)]) nb).2.2 != (0 : Int)), SV.bool true,
                     SV.int IntKind.i64 (pSpawn s (1 : Int) (ByteArray.mk #[(103 : UInt8)]) (ByteArray.mk #[(99 : UInt8)]) nb).2.2,
                     SV.bool ((pSpawn s (1 : Int) (ByteArray.mk #[(103 : UInt8)]) (ByteArray.mk #[(99 : UInt8)]) nb).2.2 != (81 : Int)),
                     SV.bool ((pSpawn s (1 : Int) (ByteArray.mk #[(103 : UInt8)]) (ByteArray.mk #[(99 : UInt8)]) nb).2.2 != (81 : Int)), SV.bool false, SV.int IntKind.i64 last,
                     SV.int IntKind.i64 (pSpawn s (1 : Int) (ByteArray.mk #[(103 : UInt8)]) (ByteArray.mk #[(99 : UInt8)]) nb).2.1,
                     SV.int IntKind.i64 (mxI last (pSpawn s (1 : Int) (ByteArray.mk #[(103 : UInt8)]) (ByteArray.mk #[(99 : UInt8)]) nb).2.1), SV.raw (u 99),
                     SV.raw (u 100), SV.raw (u 101), SV.raw (u 102), SV.raw (u 103), SV.raw (u 104), SV.raw (u 105),
                     SV.raw (u 106), SV.raw (u 107), SV.raw (u 108), SV.raw (u 109), SV.raw (u 110), SV.raw (u 111),
                     SV.raw (u 112), SV.raw (u 113), SV.raw (u 114), SV.raw (u 115), SV.raw (u 116), SV.raw (u 117),
                     SV.raw (u 118), SV.raw (u 119), SV.raw (u 120), SV.raw (u 121), SV.raw (u 122), SV.raw (u 123),
                     SV.raw (u 124), SV.raw (u 125), SV.raw (u 126), SV.raw (u 127), SV.raw (u 128), SV.raw (u 129),
                     SV.raw (u 130), SV.raw (u 131), SV.raw (u 132), SV.raw (u 133), SV.raw (u 134), SV.raw (u 135),
                     SV.raw (u 136), SV.raw (u 137), SV.raw (u 138), SV.raw (u 139), SV.raw (u 140), SV.raw (u 141),
                     SV.raw (u 142), SV.raw (u 143), SV.raw (u 144), SV.raw (u 145), SV.raw (u 146), SV.raw (u 147),
                     SV.raw (u 148), SV.raw (u 149), SV.raw (u 150), SV.raw (u 151), SV.raw (u 152), SV.raw (u 153),
                     SV.raw (u 154), SV.raw (u 155), SV.raw (u 156), SV.raw (u 157), SV.raw (u 158), SV.raw (u 159),
                     SV.raw (u 160), SV.raw (u 161), SV.raw (u 162), SV.raw (u 163), SV.raw (u 164), SV.raw (u 165),
                     SV.raw (u 166), SV.raw (u 167), SV.raw (u 168), SV.raw (u 169), SV.raw (u 170), SV.raw (u 171),
                     SV.raw (u 172), SV.raw (u 173), SV.raw (u 174), SV.raw (u 175), SV.raw (u 176), SV.raw (u 177),
                     SV.raw (u 178), SV.raw (u 179), SV.raw (u 180), SV.raw (u 181), SV.raw (u 182), SV.raw (u 183),
                     SV.raw (u 184), SV.raw (u 185), SV.raw (u 186), SV.raw (u 187), SV.raw (u 188), SV.raw (u 189),
                     SV.raw (u 190), SV.raw (u 191)]
                    [Ent.mk (Loc.sl ao cap) (SObj.roL 1 encU8 bs (0 : Int)),
                     pkA b ptE (pSpawn s (1 : Int) (ByteArray.mk #[(103 : UInt8)]) (ByteArray.mk #[(99 : UInt8)]) nb).1])
                | false =>
                 K (frmR [J] (bodyOf Try.f4) 28)
                  (Sy.mk
                   [SV.vec 0 ao (List.length bs) cap, SV.raw (u 1), SV.raw (u 2), SV.ptr 1 b 0,
                    SV.int IntKind.i64 (mxI last (pSpawn s (1 : Int) (ByteArray.mk #[(103 : UInt8)]) (ByteArray.mk #[(99 : UInt8)]) nb).2.1), SV.int IntKind.i64 i,
                    SV.int IntKind.i64
                     (IntKind.wrap IntKind.i64
                      (Int.tmod (IntKind.wrap IntKind.i64 (IntKind.wrap IntKind.u8 (Int.tdiv (List.getD bs (Int.toNat i) (0 : Int)) (4 : Int))))
                       (IntKind.wrap IntKind.i64 (last + (1 : Int))) +
                       (1 : Int))),
                    SV.int IntKind.i64 (pSpawn s (1 : Int) (ByteArray.mk #[(103 : UInt8)]) (ByteArray.mk #[(99 : UInt8)]) nb).2.1,
                    SV.int IntKind.i64 (pSpawn s (1 : Int) (ByteArray.mk #[(103 : UInt8)]) (ByteArray.mk #[(99 : UInt8)]) nb).2.2, SV.raw (u 9), SV.raw (u 10),
                    SV.raw (u 11), SV.raw (u 12), SV.raw (u 13), SV.raw (u 14), SV.raw (u 15), SV.raw (u 16), SV.raw (u 17),
                    SV.raw (u 18), SV.raw (u 19), SV.raw (u 20), SV.raw (u 21), SV.raw (u 22), SV.raw (u 23), SV.raw (u 24),
                    SV.int IntKind.i64 i, SV.vec 0 ao (List.length bs) cap, SV.int IntKind.i64 (↑(List.length bs) : Int), SV.bool true, SV.raw (u 29),
                    SV.raw (u 30), SV.vec 0 ao (List.length bs) cap, SV.int IntKind.i64 i,
                    SV.eptr 0 (Addr.blkD ao) (Addr.offD ao) 1 (Int.toNat i) 0, SV.int IntKind.u8 (List.getD bs (Int.toNat i) (0 : Int)),
                    SV.int IntKind.u8 (IntKind.wrap IntKind.u8 (Int.tdiv (List.getD bs (Int.toNat i) (0 : Int)) (4 : Int))),
                    SV.int IntKind.i64 (IntKind.wrap IntKind.i64 (IntKind.wrap IntKind.u8 (Int.tdiv (List.getD bs (Int.toNat i) (0 : Int)) (4 : Int)))), SV.int IntKind.i64 last,
                    SV.int IntKind.i64 (IntKind.wrap IntKind.i64 (last + (1 : Int))),
                    SV.int IntKind.i64
                     (Int.tmod (IntKind.wrap IntKind.i64 (IntKind.wrap IntKind.u8 (Int.tdiv (List.getD bs (Int.toNat i) (0 : Int)) (4 : Int))))
                      (IntKind.wrap IntKind.i64 (last + (1 : Int)))),
                    SV.int IntKind.i64
                     (IntKind.wrap IntKind.i64
                      (Int.tmod (IntKind.wrap IntKind.i64 (IntKind.wrap IntKind.u8 (Int.tdiv (List.getD bs (Int.toNat i) (0 : Int)) (4 : Int))))
                       (IntKind.wrap IntKind.i64 (last + (1 : Int))) +
                       (1 : Int))),
                    SV.vec 0 ao (List.length bs) cap, SV.int IntKind.i64 i, SV.eptr 0 (Addr.blkD ao) (Addr.offD ao) 1 (Int.toNat i) 0,
                    SV.int IntKind.u8 (List.getD bs (Int.toNat i) (0 : Int)), SV.int IntKind.u8 (Int.tmod (List.getD bs (Int.toNat i) (0 : Int)) (4 : Int)), SV.raw (u 46),
                    SV.raw (u 47), SV.raw (u 48), SV.raw (u 49), SV.raw (u 50), SV.raw (u 51), SV.raw (u 52), SV.raw (u 53),
                    SV.raw (u 54), SV.raw (u 55), SV.raw (u 56), SV.raw (u 57), SV.raw (u 58), SV.raw (u 59), SV.raw (u 60),
                    SV.raw (u 61), SV.raw (u 62), SV.raw (u 63), SV.raw (u 64), SV.raw (u 65), SV.raw (u 66), SV.raw (u 67),
                    SV.raw (u 68), SV.raw (u 69), SV.raw (u 70), SV.raw (u 71), SV.raw (u 72), SV.bool true,
                    SV.bool (Int.tmod (List.getD bs (Int.toNat i) (0 : Int)) (4 : Int) == (0 : Int)),
                    SV.tuple
                     [SV.int IntKind.i64 (pSpawn s (1 : Int) (ByteArray.mk #[(103 : UInt8)]) (ByteArray.mk #[(99 : UInt8)]) nb).2.1,
                      SV.int IntKind.i64 (pSpawn s (1 : Int) (ByteArray.mk #[(103 : UInt8)]) (ByteArray.mk #[(99 : UInt8)]) nb).2.2],
                    SV.ptr 1 b 0,
                    SV.tuple
                     [SV.int IntKind.i64 (pSpawn s (1 : Int) (ByteArray.mk #[(103 : UInt8)]) (ByteArray.mk #[(99 : UInt8)]) nb).2.1,
                      SV.int IntKind.i64 (pSpawn s (1 : Int) (ByteArray.mk #[(103 : UInt8)]) (ByteArray.mk #[(99 : UInt8)]) nb).2.2],
                    SV.int IntKind.i64 (pSpawn s (1 : Int) (ByteArray.mk #[(103 : UInt8)]) (ByteArray.mk #[(99 : UInt8)]) nb).2.1,
                    SV.int IntKind.i64 (pSpawn s (1 : Int) (ByteArray.mk #[(103 : UInt8)]) (ByteArray.mk #[(99 : UInt8)]) nb).2.2,
                    SV.int IntKind.i64 (pSpawn s (1 : Int) (ByteArray.mk #[(103 : UInt8)]) (ByteArray.mk #[(99 : UInt8)]) nb).2.2,
                    SV.bool ((pSpawn s (1 : Int) (ByteArray.mk #[(103 : UInt8)]) (ByteArray.mk #[(99 : UInt8)]) nb).2.2 == (0 : Int)), SV.bool false, SV.raw (Value.tuple #[]),
                    SV.raw (Value.tuple #[]), SV.raw (Value.tuple #[]), SV.raw (Value.tuple #[]), SV.bool false, SV.bool false,
                    SV.int IntKind.i64 (pSpawn s (1 : Int) (ByteArray.mk #[(103 : UInt8)]) (ByteArray.mk #[(99 : UInt8)]) nb).2.2,
                    SV.bool ((pSpawn s (1 : Int) (ByteArray.mk #[(103 : UInt8)]) (ByteArray.mk #[(99 : UInt8)]) nb).2.2 != (0 : Int)), SV.bool false, SV.raw (Value.tuple #[]),
                    SV.raw (Value.tuple #[]), SV.bool false, SV.bool false, SV.int IntKind.i64 last,
                    SV.int IntKind.i64 (pSpawn s (1 : Int) (ByteArray.mk #[(103 : UInt8)]) (ByteArray.mk #[(99 : UInt8)]) nb).2.1,
                    SV.int IntKind.i64 (mxI last (pSpawn s (1 : Int) (ByteArray.mk #[(103 : UInt8)]) (ByteArray.mk #[(99 : UInt8)]) nb).2.1), SV.raw (u 99),
                    SV.raw (u 100), SV.raw (u 101), SV.raw (u 102), SV.raw (u 103), SV.raw (u 104), SV.raw (u 105),
                    SV.raw (u 106), SV.raw (u 107), SV.raw (u 108), SV.raw (u 109), SV.raw (u 110), SV.raw (u 111),
                    SV.raw (u 112), SV.raw (u 113), SV.raw (u 114), SV.raw (u 115), SV.raw (u 116), SV.raw (u 117),
                    SV.raw (u 118), SV.raw (u 119), SV.raw (u 120), SV.raw (u 121), SV.raw (u 122), SV.raw (u 123),
                    SV.raw (u 124), SV.raw (u 125), SV.raw (u 126), SV.raw (u 127), SV.raw (u 128), SV.raw (u 129),
                    SV.raw (u 130), SV.raw (u 131), SV.raw (u 132), SV.raw (u 133), SV.raw (u 134), SV.raw (u 135),
                    SV.raw (u 136), SV.raw (u 137), SV.raw (u 138), SV.raw (u 139), SV.raw (u 140), SV.raw (u 141),
                    SV.raw (u 142), SV.raw (u 143), SV.raw (u 144), SV.raw (u 145), SV.raw (u 146), SV.raw (u 147),
                    SV.raw (u 148), SV.raw (u 149), SV.raw (u 150), SV.raw (u 151), SV.raw (u 152), SV.raw (u 153),
                    SV.raw (u 154), SV.raw (u 155), SV.raw (u 156), SV.raw (u 157), SV.raw (u 158), SV.raw (u 159),
                    SV.raw (u 160), SV.raw (u 161), SV.raw (u 162), SV.raw (u 163), SV.raw (u 164), SV.raw (u 165),
                    SV.raw (u 166), SV.raw (u 167), SV.raw (u 168), SV.raw (u 169), SV.raw (u 170), SV.raw (u 171),
                    SV.raw (u 172), SV.raw (u 173), SV.raw (u 174), SV.raw (u 175), SV.raw (u 176), SV.raw (u 177),
                    SV.raw (u 178), SV.raw (u 179), SV.raw (u 180), SV.raw (u 181), SV.raw (u 182), SV.raw (u 183),
                    SV.raw (u 184), SV.raw (u 185), SV.raw (u 186), SV.raw (u 187), SV.raw (u 188), SV.raw (u 189),
                    SV.raw (u 190), SV.raw (u 191)]
                   [Ent.mk (Loc.sl ao cap) (SObj.roL 1 encU8 bs (0 : Int)),
                    pkA b ptE (pSpawn s (1 : Int) (ByteArray.mk #[(103 : UInt8)]) (ByteArray.mk #[(99 : UInt8)]) nb).1])
        | false =>
         match Int.tmod (List.getD bs (Int.toNat i) (0 : Int)) (4 : Int) == (1 : Int) with
         | true =>
          true = true ∧
           b = b ∧
            ∃ (h : PT = PT),
             AdtIs (fun (s : PT) (b : Nat) ↦ packs (ptE s b)) ptE ∧
              pOk s ∧
               ∀ (nb : Nat),
                match
                 (pFork s
                  (IntKind.wrap IntKind.i64
                   (Int.tmod (IntKind.wrap IntKind.i64 (IntKind.wrap IntKind.u8 (Int.tdiv (List.getD bs (Int.toNat i) (0 : Int)) (4 : Int))))
                    (IntKind.wrap IntKind.i64 (last + (1 : Int))) +
                    (1 : Int)))
                  nb).2.2 ==
                  (0 : Int) with
                | true =>
                 match
                  (pFork s
                   (IntKind.wrap IntKind.i64
                    (Int.tmod (IntKind.wrap IntKind.i64 (IntKind.wrap IntKind.u8 (Int.tdiv (List.getD bs (Int.toNat i) (0 : Int)) (4 : Int))))
                     (IntKind.wrap IntKind.i64 (last + (1 : Int))) +
                     (1 : Int)))
                   nb).2.1 !=
                   IntKind.wrap IntKind.i64 (last + (1 : Int)) with
                 | true =>
                  N
                   [Ent.mk (Loc.sl ao cap) (SObj.roL 1 encU8 bs (0 : Int)),
                    pkA b ptE
                     (pFork s
                      (IntKind.wrap IntKind.i64
                       (Int.tmod (IntKind.wrap IntKind.i64 (IntKind.wrap IntKind.u8 (Int.tdiv (List.getD bs (Int.toNat i) (0 : Int)) (4 : Int))))
                        (IntKind.wrap IntKind.i64 (last + (1 : Int))) +
                        (1 : Int)))
                      nb).1]
                   (SV.bool false)
                 | false =>
                  K (frmR [J] (bodyOf Try.f4) 28)
                   (Sy.mk
                    [SV.vec 0 ao (List.length bs) cap, SV.raw (u 1), SV.raw (u 2), SV.ptr 1 b 0,
                     SV.int IntKind.i64
                      (mxI last
                       (pFork s
                        (IntKind.wrap IntKind.i64
                         (Int.tmod (IntKind.wrap IntKind.i64 (IntKind.wrap IntKind.u8 (Int.tdiv (List.getD bs (Int.toNat i) (0 : Int)) (4 : Int))))
                          (IntKind.wrap IntKind.i64 (last + (1 : Int))) +
                          (1 : Int)))
                        nb).2.1),
                     SV.int IntKind.i64 i,
                     SV.int IntKind.i64
                      (IntKind.wrap IntKind.i64
                       (Int.tmod (IntKind.wrap IntKind.i64 (IntKind.wrap IntKind.u8 (Int.tdiv (List.getD bs (Int.toNat i) (0 : Int)) (4 : Int))))
                        (IntKind.wrap IntKind.i64 (last + (1 : Int))) +
                        (1 : Int))),
                     SV.raw (u 7), SV.raw (u 8),
                     SV.int IntKind.i64
                      (pFork s
                       (IntKind.wrap IntKind.i64
                        (Int.tmod (IntKind.wrap IntKind.i64 (IntKind.wrap IntKind.u8 (Int.tdiv (List.getD bs (Int.toNat i) (0 : Int)) (4 : Int))))
                         (IntKind.wrap IntKind.i64 (last + (1 : Int))) +
                         (1 : Int)))
                       nb).2.1,
                     SV.int IntKind.i64
                      (pFork s
                       (IntKind.wrap IntKind.i64
                        (Int.tmod (IntKind.wrap IntKind.i64 (IntKind.wrap IntKind.u8 (Int.tdiv (List.getD bs (Int.toNat i) (0 : Int)) (4 : Int))))
                         (IntKind.wrap IntKind.i64 (last + (1 : Int))) +
                         (1 : Int)))
                       nb).2.2,
                     SV.raw (u 11), SV.raw (u 12), SV.raw (u 13), SV.raw (u 14), SV.raw (u 15), SV.raw (u 16),
                     SV.raw (u 17), SV.raw (u 18), SV.raw (u 19), SV.raw (u 20), SV.raw (u 21), SV.raw (u 22),
                     SV.raw (u 23), SV.raw (u 24), SV.int IntKind.i64 i, SV.vec 0 ao (List.length bs) cap, SV.int IntKind.i64 (↑(List.length bs) : Int),
                     SV.bool true, SV.raw (u 29), SV.raw (u 30), SV.vec 0 ao (List.length bs) cap, SV.int IntKind.i64 i,
                     SV.eptr 0 (Addr.blkD ao) (Addr.offD ao) 1 (Int.toNat i) 0, SV.int IntKind.u8 (List.getD bs (Int.toNat i) (0 : Int)),
                     SV.int IntKind.u8 (IntKind.wrap IntKind.u8 (Int.tdiv (List.getD bs (Int.toNat i) (0 : Int)) (4 : Int))),
                     SV.int IntKind.i64 (IntKind.wrap IntKind.i64 (IntKind.wrap IntKind.u8 (Int.tdiv (List.getD bs (Int.toNat i) (0 : Int)) (4 : Int)))), SV.int IntKind.i64 last,
                     SV.int IntKind.i64 (IntKind.wrap IntKind.i64 (last + (1 : Int))),
                     SV.int IntKind.i64
                      (Int.tmod (IntKind.wrap IntKind.i64 (IntKind.wrap IntKind.u8 (Int.tdiv (List.getD bs (Int.toNat i) (0 : Int)) (4 : Int))))
                       (IntKind.wrap IntKind.i64 (last + (1 : Int)))),
                     SV.int IntKind.i64
                      (IntKind.wrap IntKind.i64
                       (Int.tmod (IntKind.wrap IntKind.i64 (IntKind.wrap IntKind.u8 (Int.tdiv (List.getD bs (Int.toNat i) (0 : Int)) (4 : Int))))
                        (IntKind.wrap IntKind.i64 (last + (1 : Int))) +
                        (1 : Int))),
                     SV.vec 0 ao (List.length bs) cap, SV.int IntKind.i64 i, SV.eptr 0 (Addr.blkD ao) (Addr.offD ao) 1 (Int.toNat i) 0,
                     SV.int IntKind.u8 (List.getD bs (Int.toNat i) (0 : Int)), SV.int IntKind.u8 (Int.tmod (List.getD bs (Int.toNat i) (0 : Int)) (4 : Int)),
                     SV.raw (u 46), SV.raw (u 47), SV.raw (u 48), SV.raw (u 49), SV.raw (u 50), SV.raw (u 51),
                     SV.raw (u 52), SV.raw (u 53), SV.raw (u 54), SV.raw (u 55), SV.raw (u 56), SV.raw (u 57),
                     SV.raw (u 58), SV.raw (u 59), SV.raw (u 60), SV.raw (u 61), SV.raw (u 62), SV.raw (u 63),
                     SV.raw (u 64), SV.raw (u 65), SV.raw (u 66), SV.raw (u 67), SV.raw (u 68), SV.raw (u 69),
                     SV.raw (u 70), SV.raw (u 71), SV.raw (u 72), SV.bool false,
                     SV.bool (Int.tmod (List.getD bs (Int.toNat i) (0 : Int)) (4 : Int) == (0 : Int)), SV.raw (u 75), SV.raw (u 76), SV.raw (u 77),
                     SV.raw (u 78), SV.raw (u 79), SV.raw (u 80), SV.raw (u 81), SV.raw (u 82), SV.raw (u 83),
                     SV.raw (u 84), SV.raw (u 85), SV.raw (u 86), SV.raw (u 87), SV.raw (u 88), SV.raw (u 89),
                     SV.raw (u 90), SV.raw (u 91), SV.raw (u 92), SV.raw (u 93), SV.raw (u 94), SV.raw (u 95),
                     SV.raw (u 96), SV.raw (u 97), SV.raw (u 98), SV.bool true,
                     SV.bool (Int.tmod (List.getD bs (Int.toNat i) (0 : Int)) (4 : Int) == (1 : Int)),
                     SV.tuple
                      [SV.int IntKind.i64
                       (pFork s
                        (IntKind.wrap IntKind.i64
                         (Int.tmod (IntKind.wrap IntKind.i64 (IntKind.wrap IntKind.u8 (Int.tdiv (List.getD bs (Int.toNat i) (0 : Int)) (4 : Int))))
                          (IntKind.wrap IntKind.i64 (last + (1 : Int))) +
                          (1 : Int)))
                        nb).2.1,
                       SV.int IntKind.i64
                        (pFork s
                         (IntKind.wrap IntKind.i64
                          (Int.tmod (IntKind.wrap IntKind.i64 (IntKind.wrap IntKind.u8 (Int.tdiv (List.getD bs (Int.toNat i) (0 : Int)) (4 : Int))))
                           (IntKind.wrap IntKind.i64 (last + (1 : Int))) +
                           (1 : Int)))
                         nb).2.2],
                     SV.ptr 1 b 0,
                     SV.int IntKind.i64
                      (IntKind.wrap IntKind.i64
                       (Int.tmod (IntKind.wrap IntKind.i64 (IntKind.wrap IntKind.u8 (Int.tdiv (List.getD bs (Int.toNat i) (0 : Int)) (4 : Int))))
                        (IntKind.wrap IntKind.i64 (last + (1 : Int))) +
                        (1 : Int))),
                     SV.tuple
                      [SV.int IntKind.i64
                       (pFork s
                        (IntKind.wrap IntKind.i64
                         (Int.tmod (IntKind.wrap IntKind.i64 (IntKind.wrap IntKind.u8 (Int.tdiv (List.getD bs (Int.toNat i) (0 : Int)) (4 : Int))))
                          (IntKind.wrap IntKind.i64 (last + (1 : Int))) +
                          (1 : Int)))
                        nb).2.1,
                       SV.int IntKind.i64
                        (pFork s
                         (IntKind.wrap IntKind.i64
                          (Int.tmod (IntKind.wrap IntKind.i64 (IntKind.wrap IntKind.u8 (Int.tdiv (List.getD bs (Int.toNat i) (0 : Int)) (4 : Int))))
                           (IntKind.wrap IntKind.i64 (last + (1 : Int))) +
                           (1 : Int)))
                         nb).2.2],
                     SV.int IntKind.i64
                      (pFork s
                       (IntKind.wrap IntKind.i64
                        (Int.tmod (IntKind.wrap IntKind.i64 (IntKind.wrap IntKind.u8 (Int.tdiv (List.getD bs (Int.toNat i) (0 : Int)) (4 : Int))))
                         (IntKind.wrap IntKind.i64 (last + (1 : Int))) +
                         (1 : Int)))
                       nb).2.1,
                     SV.int IntKind.i64
                      (pFork s
                       (IntKind.wrap IntKind.i64
                        (Int.tmod (IntKind.wrap IntKind.i64 (IntKind.wrap IntKind.u8 (Int.tdiv (List.getD bs (Int.toNat i) (0 : Int)) (4 : Int))))
                         (IntKind.wrap IntKind.i64 (last + (1 : Int))) +
                         (1 : Int)))
                       nb).2.2,
                     SV.int IntKind.i64
                      (pFork s
                       (IntKind.wrap IntKind.i64
                        (Int.tmod (IntKind.wrap IntKind.i64 (IntKind.wrap IntKind.u8 (Int.tdiv (List.getD bs (Int.toNat i) (0 : Int)) (4 : Int))))
                         (IntKind.wrap IntKind.i64 (last + (1 : Int))) +
                         (1 : Int)))
                       nb).2.2,
                     SV.bool
                      ((pFork s
                       (IntKind.wrap IntKind.i64
                        (Int.tmod (IntKind.wrap IntKind.i64 (IntKind.wrap IntKind.u8 (Int.tdiv (List.getD bs (Int.toNat i) (0 : Int)) (4 : Int))))
                         (IntKind.wrap IntKind.i64 (last + (1 : Int))) +
                         (1 : Int)))
                       nb).2.2 ==
                       (0 : Int)),
                     SV.bool true,
                     SV.int IntKind.i64
                      (pFork s
                       (IntKind.wrap IntKind.i64
                        (Int.tmod (IntKind.wrap IntKind.i64 (IntKind.wrap IntKind.u8 (Int.tdiv (List.getD bs (Int.toNat i) (0 : Int)) (4 : Int))))
                         (IntKind.wrap IntKind.i64 (last + (1 : Int))) +
                         (1 : Int)))
                       nb).2.1,
                     SV.int IntKind.i64 last, SV.int IntKind.i64 (IntKind.wrap IntKind.i64 (last + (1 : Int))),
                     SV.bool
                      ((pFork s
                       (IntKind.wrap IntKind.i64
                        (Int.tmod (IntKind.wrap IntKind.i64 (IntKind.wrap IntKind.u8 (Int.tdiv (List.getD bs (Int.toNat i) (0 : Int)) (4 : Int))))
                         (IntKind.wrap IntKind.i64 (last + (1 : Int))) +
                         (1 : Int)))
                       nb).2.1 !=
                       IntKind.wrap IntKind.i64 (last + (1 : Int))),
                     SV.bool false, SV.int IntKind.i64 last,
                     SV.int IntKind.i64
                      (pFork s
                       (IntKind.wrap IntKind.i64
                        (Int.tmod (IntKind.wrap IntKind.i64 (IntKind.wrap IntKind.u8 (Int.tdiv (List.getD bs (Int.toNat i) (0 : Int)) (4 : Int))))
                         (IntKind.wrap IntKind.i64 (last + (1 : Int))) +
                         (1 : Int)))
                       nb).2.1,
                     SV.int IntKind.i64
                      (mxI last
                       (pFork s
                        (IntKind.wrap IntKind.i64
                         (Int.tmod (IntKind.wrap IntKind.i64 (IntKind.wrap IntKind.u8 (Int.tdiv (List.getD bs (Int.toNat i) (0 : Int)) (4 : Int))))
                          (IntKind.wrap IntKind.i64 (last + (1 : Int))) +
                          (1 : Int)))
                        nb).2.1),
                     SV.raw (u 118), SV.raw (u 119), SV.raw (u 120), SV.raw (u 121), SV.raw (u 122), SV.raw (u 123),
                     SV.raw (u 124), SV.raw (u 125), SV.raw (u 126), SV.raw (u 127), SV.raw (u 128), SV.raw (u 129),
                     SV.raw (u 130), SV.raw (u 131), SV.raw (u 132), SV.raw (u 133), SV.raw (u 134), SV.raw (u 135),
                     SV.raw (u 136), SV.raw (u 137), SV.raw (u 138), SV.raw (u 139), SV.raw (u 140), SV.raw (u 141),
                     SV.raw (u 142), SV.raw (u 143), SV.raw (u 144), SV.raw (u 145), SV.raw (u 146), SV.raw (u 147),
                     SV.raw (u 148), SV.raw (u 149), SV.raw (u 150), SV.raw (u 151), SV.raw (u 152), SV.raw (u 153),
                     SV.raw (u 154), SV.raw (u 155), SV.raw (u 156), SV.raw (u 157), SV.raw (u 158), SV.raw (u 159),
                     SV.raw (u 160), SV.raw (u 161), SV.raw (u 162), SV.raw (u 163), SV.raw (u 164), SV.raw (u 165),
                     SV.raw (u 166), SV.raw (u 167), SV.raw (u 168), SV.raw (u 169), SV.raw (u 170), SV.raw (u 171),
                     SV.raw (u 172), SV.raw (u 173), SV.raw (u 174), SV.raw (u 175), SV.raw (u 176), SV.raw (u 177),
                     SV.raw (u 178), SV.raw (u 179), SV.raw (u 180), SV.raw (u 181), SV.raw (u 182), SV.raw (u 183),
                     SV.raw (u 184), SV.raw (u 185), SV.raw (u 186), SV.raw (u 187), SV.raw (u 188), SV.raw (u 189),
                     SV.raw (u 190), SV.raw (u 191)]
                    [Ent.mk (Loc.sl ao cap) (SObj.roL 1 encU8 bs (0 : Int)),
                     pkA b ptE
                      (pFork s
                       (IntKind.wrap IntKind.i64
                        (Int.tmod (IntKind.wrap IntKind.i64 (IntKind.wrap IntKind.u8 (Int.tdiv (List.getD bs (Int.toNat i) (0 : Int)) (4 : Int))))
                         (IntKind.wrap IntKind.i64 (last + (1 : Int))) +
                         (1 : Int)))
                       nb).1])
                | false =>
                 K (frmR [J] (bodyOf Try.f4) 28)
                  (Sy.mk
                   [SV.vec 0 ao (List.length bs) cap, SV.raw (u 1), SV.raw (u 2), SV.ptr 1 b 0,
                    SV.int IntKind.i64
                     (mxI last
                      (pFork s
                       (IntKind.wrap IntKind.i64
                        (Int.tmod (IntKind.wrap IntKind.i64 (IntKind.wrap IntKind.u8 (Int.tdiv (List.getD bs (Int.toNat i) (0 : Int)) (4 : Int))))
                         (IntKind.wrap IntKind.i64 (last + (1 : Int))) +
                         (1 : Int)))
                       nb).2.1),
                    SV.int IntKind.i64 i,
                    SV.int IntKind.i64
                     (IntKind.wrap IntKind.i64
                      (Int.tmod (IntKind.wrap IntKind.i64 (IntKind.wrap IntKind.u8 (Int.tdiv (List.getD bs (Int.toNat i) (0 : Int)) (4 : Int))))
                       (IntKind.wrap IntKind.i64 (last + (1 : Int))) +
                       (1 : Int))),
                    SV.raw (u 7), SV.raw (u 8),
                    SV.int IntKind.i64
                     (pFork s
                      (IntKind.wrap IntKind.i64
                       (Int.tmod (IntKind.wrap IntKind.i64 (IntKind.wrap IntKind.u8 (Int.tdiv (List.getD bs (Int.toNat i) (0 : Int)) (4 : Int))))
                        (IntKind.wrap IntKind.i64 (last + (1 : Int))) +
                        (1 : Int)))
                      nb).2.1,
                    SV.int IntKind.i64
                     (pFork s
                      (IntKind.wrap IntKind.i64
                       (Int.tmod (IntKind.wrap IntKind.i64 (IntKind.wrap IntKind.u8 (Int.tdiv (List.getD bs (Int.toNat i) (0 : Int)) (4 : Int))))
                        (IntKind.wrap IntKind.i64 (last + (1 : Int))) +
                        (1 : Int)))
                      nb).2.2,
                    SV.raw (u 11), SV.raw (u 12), SV.raw (u 13), SV.raw (u 14), SV.raw (u 15), SV.raw (u 16), SV.raw (u 17),
                    SV.raw (u 18), SV.raw (u 19), SV.raw (u 20), SV.raw (u 21), SV.raw (u 22), SV.raw (u 23), SV.raw (u 24),
                    SV.int IntKind.i64 i, SV.vec 0 ao (List.length bs) cap, SV.int IntKind.i64 (↑(List.length bs) : Int), SV.bool true, SV.raw (u 29),
                    SV.raw (u 30), SV.vec 0 ao (List.length bs) cap, SV.int IntKind.i64 i,
                    SV.eptr 0 (Addr.blkD ao) (Addr.offD ao) 1 (Int.toNat i) 0, SV.int IntKind.u8 (List.getD bs (Int.toNat i) (0 : Int)),
                    SV.int IntKind.u8 (IntKind.wrap IntKind.u8 (Int.tdiv (List.getD bs (Int.toNat i) (0 : Int)) (4 : Int))),
                    SV.int IntKind.i64 (IntKind.wrap IntKind.i64 (IntKind.wrap IntKind.u8 (Int.tdiv (List.getD bs (Int.toNat i) (0 : Int)) (4 : Int)))), SV.int IntKind.i64 last,
                    SV.int IntKind.i64 (IntKind.wrap IntKind.i64 (last + (1 : Int))),
                    SV.int IntKind.i64
                     (Int.tmod (IntKind.wrap IntKind.i64 (IntKind.wrap IntKind.u8 (Int.tdiv (List.getD bs (Int.toNat i) (0 : Int)) (4 : Int))))
                      (IntKind.wrap IntKind.i64 (last + (1 : Int)))),
                    SV.int IntKind.i64
                     (IntKind.wrap IntKind.i64
                      (Int.tmod (IntKind.wrap IntKind.i64 (IntKind.wrap IntKind.u8 (Int.tdiv (List.getD bs (Int.toNat i) (0 : Int)) (4 : Int))))
                       (IntKind.wrap IntKind.i64 (last + (1 : Int))) +
                       (1 : Int))),
                    SV.vec 0 ao (List.length bs) cap, SV.int IntKind.i64 i, SV.eptr 0 (Addr.blkD ao) (Addr.offD ao) 1 (Int.toNat i) 0,
                    SV.int IntKind.u8 (List.getD bs (Int.toNat i) (0 : Int)), SV.int IntKind.u8 (Int.tmod (List.getD bs (Int.toNat i) (0 : Int)) (4 : Int)), SV.raw (u 46),
                    SV.raw (u 47), SV.raw (u 48), SV.raw (u 49), SV.raw (u 50), SV.raw (u 51), SV.raw (u 52), SV.raw (u 53),
                    SV.raw (u 54), SV.raw (u 55), SV.raw (u 56), SV.raw (u 57), SV.raw (u 58), SV.raw (u 59), SV.raw (u 60),
                    SV.raw (u 61), SV.raw (u 62), SV.raw (u 63), SV.raw (u 64), SV.raw (u 65), SV.raw (u 66), SV.raw (u 67),
                    SV.raw (u 68), SV.raw (u 69), SV.raw (u 70), SV.raw (u 71), SV.raw (u 72), SV.bool false,
                    SV.bool (Int.tmod (List.getD bs (Int.toNat i) (0 : Int)) (4 : Int) == (0 : Int)), SV.raw (u 75), SV.raw (u 76), SV.raw (u 77),
                    SV.raw (u 78), SV.raw (u 79), SV.raw (u 80), SV.raw (u 81), SV.raw (u 82), SV.raw (u 83), SV.raw (u 84),
                    SV.raw (u 85), SV.raw (u 86), SV.raw (u 87), SV.raw (u 88), SV.raw (u 89), SV.raw (u 90), SV.raw (u 91),
                    SV.raw (u 92), SV.raw (u 93), SV.raw (u 94), SV.raw (u 95), SV.raw (u 96), SV.raw (u 97), SV.raw (u 98),
                    SV.bool true, SV.bool (Int.tmod (List.getD bs (Int.toNat i) (0 : Int)) (4 : Int) == (1 : Int)),
                    SV.tuple
                     [SV.int IntKind.i64
                      (pFork s
                       (IntKind.wrap IntKind.i64
                        (Int.tmod (IntKind.wrap IntKind.i64 (IntKind.wrap IntKind.u8 (Int.tdiv (List.getD bs (Int.toNat i) (0 : Int)) (4 : Int))))
                         (IntKind.wrap IntKind.i64 (last + (1 : Int))) +
                         (1 : Int)))
                       nb).2.1,
                      SV.int IntKind.i64
                       (pFork s
                        (IntKind.wrap IntKind.i64
                         (Int.tmod (IntKind.wrap IntKind.i64 (IntKind.wrap IntKind.u8 (Int.tdiv (List.getD bs (Int.toNat i) (0 : Int)) (4 : Int))))
                          (IntKind.wrap IntKind.i64 (last + (1 : Int))) +
                          (1 : Int)))
                        nb).2.2],
                    SV.ptr 1 b 0,
                    SV.int IntKind.i64
                     (IntKind.wrap IntKind.i64
                      (Int.tmod (IntKind.wrap IntKind.i64 (IntKind.wrap IntKind.u8 (Int.tdiv (List.getD bs (Int.toNat i) (0 : Int)) (4 : Int))))
                       (IntKind.wrap IntKind.i64 (last + (1 : Int))) +
                       (1 : Int))),
                    SV.tuple
                     [SV.int IntKind.i64
                      (pFork s
                       (IntKind.wrap IntKind.i64
                        (Int.tmod (IntKind.wrap IntKind.i64 (IntKind.wrap IntKind.u8 (Int.tdiv (List.getD bs (Int.toNat i) (0 : Int)) (4 : Int))))
                         (IntKind.wrap IntKind.i64 (last + (1 : Int))) +
                         (1 : Int)))
                       nb).2.1,
                      SV.int IntKind.i64
                       (pFork s
                        (IntKind.wrap IntKind.i64
                         (Int.tmod (IntKind.wrap IntKind.i64 (IntKind.wrap IntKind.u8 (Int.tdiv (List.getD bs (Int.toNat i) (0 : Int)) (4 : Int))))
                          (IntKind.wrap IntKind.i64 (last + (1 : Int))) +
                          (1 : Int)))
                        nb).2.2],
                    SV.int IntKind.i64
                     (pFork s
                      (IntKind.wrap IntKind.i64
                       (Int.tmod (IntKind.wrap IntKind.i64 (IntKind.wrap IntKind.u8 (Int.tdiv (List.getD bs (Int.toNat i) (0 : Int)) (4 : Int))))
                        (IntKind.wrap IntKind.i64 (last + (1 : Int))) +
                        (1 : Int)))
                      nb).2.1,
                    SV.int IntKind.i64
                     (pFork s
                      (IntKind.wrap IntKind.i64
                       (Int.tmod (IntKind.wrap IntKind.i64 (IntKind.wrap IntKind.u8 (Int.tdiv (List.getD bs (Int.toNat i) (0 : Int)) (4 : Int))))
                        (IntKind.wrap IntKind.i64 (last + (1 : Int))) +
                        (1 : Int)))
                      nb).2.2,
                    SV.int IntKind.i64
                     (pFork s
                      (IntKind.wrap IntKind.i64
                       (Int.tmod (IntKind.wrap IntKind.i64 (IntKind.wrap IntKind.u8 (Int.tdiv (List.getD bs (Int.toNat i) (0 : Int)) (4 : Int))))
                        (IntKind.wrap IntKind.i64 (last + (1 : Int))) +
                        (1 : Int)))
                      nb).2.2,
                    SV.bool
                     ((pFork s
                      (IntKind.wrap IntKind.i64
                       (Int.tmod (IntKind.wrap IntKind.i64 (IntKind.wrap IntKind.u8 (Int.tdiv (List.getD bs (Int.toNat i) (0 : Int)) (4 : Int))))
                        (IntKind.wrap IntKind.i64 (last + (1 : Int))) +
                        (1 : Int)))
                      nb).2.2 ==
                      (0 : Int)),
                    SV.bool false, SV.raw (Value.tuple #[]), SV.raw (Value.tuple #[]), SV.raw (Value.tuple #[]), SV.raw (Value.tuple #[]), SV.bool false, SV.int IntKind.i64 last,
                    SV.int IntKind.i64
                     (pFork s
                      (IntKind.wrap IntKind.i64
                       (Int.tmod (IntKind.wrap IntKind.i64 (IntKind.wrap IntKind.u8 (Int.tdiv (List.getD bs (Int.toNat i) (0 : Int)) (4 : Int))))
                        (IntKind.wrap IntKind.i64 (last + (1 : Int))) +
                        (1 : Int)))
                      nb).2.1,
                    SV.int IntKind.i64
                     (mxI last
                      (pFork s
                       (IntKind.wrap IntKind.i64
                        (Int.tmod (IntKind.wrap IntKind.i64 (IntKind.wrap IntKind.u8 (Int.tdiv (List.getD bs (Int.toNat i) (0 : Int)) (4 : Int))))
                         (IntKind.wrap IntKind.i64 (last + (1 : Int))) +
                         (1 : Int)))
                       nb).2.1),
                    SV.raw (u 118), SV.raw (u 119), SV.raw (u 120), SV.raw (u 121), SV.raw (u 122), SV.raw (u 123),
                    SV.raw (u 124), SV.raw (u 125), SV.raw (u 126), SV.raw (u 127), SV.raw (u 128), SV.raw (u 129),
                    SV.raw (u 130), SV.raw (u 131), SV.raw (u 132), SV.raw (u 133), SV.raw (u 134), SV.raw (u 135),
                    SV.raw (u 136), SV.raw (u 137), SV.raw (u 138), SV.raw (u 139), SV.raw (u 140), SV.raw (u 141),
                    SV.raw (u 142), SV.raw (u 143), SV.raw (u 144), SV.raw (u 145), SV.raw (u 146), SV.raw (u 147),
                    SV.raw (u 148), SV.raw (u 149), SV.raw (u 150), SV.raw (u 151), SV.raw (u 152), SV.raw (u 153),
                    SV.raw (u 154), SV.raw (u 155), SV.raw (u 156), SV.raw (u 157), SV.raw (u 158), SV.raw (u 159),
                    SV.raw (u 160), SV.raw (u 161), SV.raw (u 162), SV.raw (u 163), SV.raw (u 164), SV.raw (u 165),
                    SV.raw (u 166), SV.raw (u 167), SV.raw (u 168), SV.raw (u 169), SV.raw (u 170), SV.raw (u 171),
                    SV.raw (u 172), SV.raw (u 173), SV.raw (u 174), SV.raw (u 175), SV.raw (u 176), SV.raw (u 177),
                    SV.raw (u 178), SV.raw (u 179), SV.raw (u 180), SV.raw (u 181), SV.raw (u 182), SV.raw (u 183),
                    SV.raw (u 184), SV.raw (u 185), SV.raw (u 186), SV.raw (u 187), SV.raw (u 188), SV.raw (u 189),
                    SV.raw (u 190), SV.raw (u 191)]
                   [Ent.mk (Loc.sl ao cap) (SObj.roL 1 encU8 bs (0 : Int)),
                    pkA b ptE
                     (pFork s
                      (IntKind.wrap IntKind.i64
                       (Int.tmod (IntKind.wrap IntKind.i64 (IntKind.wrap IntKind.u8 (Int.tdiv (List.getD bs (Int.toNat i) (0 : Int)) (4 : Int))))
                        (IntKind.wrap IntKind.i64 (last + (1 : Int))) +
                        (1 : Int)))
                      nb).1])
         | false =>
          match Int.tmod (List.getD bs (Int.toNat i) (0 : Int)) (4 : Int) == (2 : Int) with
          | true =>
           true = true ∧
            b = b ∧
             ∃ (h : PT = PT),
              AdtIs (fun (s : PT) (b : Nat) ↦ packs (ptE s b)) ptE ∧
               pOk s ∧
                K (frmR [J] (bodyOf Try.f4) 28)
                 (Sy.mk
                  [SV.vec 0 ao (List.length bs) cap, SV.raw (u 1), SV.raw (u 2), SV.ptr 1 b 0, SV.int IntKind.i64 last, SV.int IntKind.i64 i,
                   SV.int IntKind.i64
                    (IntKind.wrap IntKind.i64
                     (Int.tmod (IntKind.wrap IntKind.i64 (IntKind.wrap IntKind.u8 (Int.tdiv (List.getD bs (Int.toNat i) (0 : Int)) (4 : Int))))
                      (IntKind.wrap IntKind.i64 (last + (1 : Int))) +
                      (1 : Int))),
                   SV.raw (u 7), SV.raw (u 8), SV.raw (u 9), SV.raw (u 10), SV.raw (u 11), SV.raw (u 12), SV.raw (u 13),
                   SV.raw (u 14), SV.raw (u 15), SV.raw (u 16), SV.raw (u 17), SV.raw (u 18), SV.raw (u 19), SV.raw (u 20),
                   SV.raw (u 21), SV.raw (u 22), SV.raw (u 23), SV.raw (u 24), SV.int IntKind.i64 i, SV.vec 0 ao (List.length bs) cap,
                   SV.int IntKind.i64 (↑(List.length bs) : Int), SV.bool true, SV.raw (u 29), SV.raw (u 30), SV.vec 0 ao (List.length bs) cap,
                   SV.int IntKind.i64 i, SV.eptr 0 (Addr.blkD ao) (Addr.offD ao) 1 (Int.toNat i) 0, SV.int IntKind.u8 (List.getD bs (Int.toNat i) (0 : Int)),
                   SV.int IntKind.u8 (IntKind.wrap IntKind.u8 (Int.tdiv (List.getD bs (Int.toNat i) (0 : Int)) (4 : Int))),
                   SV.int IntKind.i64 (IntKind.wrap IntKind.i64 (IntKind.wrap IntKind.u8 (Int.tdiv (List.getD bs (Int.toNat i) (0 : Int)) (4 : Int)))), SV.int IntKind.i64 last,
                   SV.int IntKind.i64 (IntKind.wrap IntKind.i64 (last + (1 : Int))),
                   SV.int IntKind.i64
                    (Int.tmod (IntKind.wrap IntKind.i64 (IntKind.wrap IntKind.u8 (Int.tdiv (List.getD bs (Int.toNat i) (0 : Int)) (4 : Int))))
                     (IntKind.wrap IntKind.i64 (last + (1 : Int)))),
                   SV.int IntKind.i64
                    (IntKind.wrap IntKind.i64
                     (Int.tmod (IntKind.wrap IntKind.i64 (IntKind.wrap IntKind.u8 (Int.tdiv (List.getD bs (Int.toNat i) (0 : Int)) (4 : Int))))
                      (IntKind.wrap IntKind.i64 (last + (1 : Int))) +
                      (1 : Int))),
                   SV.vec 0 ao (List.length bs) cap, SV.int IntKind.i64 i, SV.eptr 0 (Addr.blkD ao) (Addr.offD ao) 1 (Int.toNat i) 0,
                   SV.int IntKind.u8 (List.getD bs (Int.toNat i) (0 : Int)), SV.int IntKind.u8 (Int.tmod (List.getD bs (Int.toNat i) (0 : Int)) (4 : Int)), SV.raw (u 46),
                   SV.raw (u 47), SV.raw (u 48), SV.raw (u 49), SV.raw (u 50), SV.raw (u 51), SV.raw (u 52), SV.raw (u 53),
                   SV.raw (u 54), SV.raw (u 55), SV.raw (u 56), SV.raw (u 57), SV.raw (u 58), SV.raw (u 59), SV.raw (u 60),
                   SV.raw (u 61), SV.raw (u 62), SV.raw (u 63), SV.raw (u 64), SV.raw (u 65), SV.raw (u 66), SV.raw (u 67),
                   SV.raw (u 68), SV.raw (u 69), SV.raw (u 70), SV.raw (u 71), SV.raw (u 72), SV.bool false,
                   SV.bool (Int.tmod (List.getD bs (Int.toNat i) (0 : Int)) (4 : Int) == (0 : Int)), SV.raw (u 75), SV.raw (u 76), SV.raw (u 77),
                   SV.raw (u 78), SV.raw (u 79), SV.raw (u 80), SV.raw (u 81), SV.raw (u 82), SV.raw (u 83), SV.raw (u 84),
                   SV.raw (u 85), SV.raw (u 86), SV.raw (u 87), SV.raw (u 88), SV.raw (u 89), SV.raw (u 90), SV.raw (u 91),
                   SV.raw (u 92), SV.raw (u 93), SV.raw (u 94), SV.raw (u 95), SV.raw (u 96), SV.raw (u 97), SV.raw (u 98),
                   SV.bool false, SV.bool (Int.tmod (List.getD bs (Int.toNat i) (0 : Int)) (4 : Int) == (1 : Int)), SV.raw (u 101), SV.raw (u 102),
                   SV.raw (u 103), SV.raw (u 104), SV.raw (u 105), SV.raw (u 106), SV.raw (u 107), SV.raw (u 108),
                   SV.raw (u 109), SV.raw (u 110), SV.raw (u 111), SV.raw (u 112), SV.raw (u 113), SV.raw (u 114),
                   SV.raw (u 115), SV.raw (u 116), SV.raw (u 117), SV.bool true,
                   SV.bool (Int.tmod (List.getD bs (Int.toNat i) (0 : Int)) (4 : Int) == (2 : Int)), SV.ptr 1 b 0,
                   SV.int IntKind.i64
                    (IntKind.wrap IntKind.i64
                     (Int.tmod (IntKind.wrap IntKind.i64 (IntKind.wrap IntKind.u8 (Int.tdiv (List.getD bs (Int.toNat i) (0 : Int)) (4 : Int))))
                      (IntKind.wrap IntKind.i64 (last + (1 : Int))) +
                      (1 : Int))),
                   SV.int IntKind.i64
                    (pExit s
                     (IntKind.wrap IntKind.i64
                      (Int.tmod (IntKind.wrap IntKind.i64 (IntKind.wrap IntKind.u8 (Int.tdiv (List.getD bs (Int.toNat i) (0 : Int)) (4 : Int))))
                       (IntKind.wrap IntKind.i64 (last + (1 : Int))) +
                       (1 : Int)))
                     (3 : Int)).2,
                   SV.raw (u 123), SV.raw (u 124), SV.raw (u 125), SV.raw (u 126), SV.raw (u 127), SV.raw (u 128),
                   SV.raw (u 129), SV.raw (u 130), SV.raw (u 131), SV.raw (u 132), SV.raw (u 133), SV.raw (u 134),
                   SV.raw (u 135), SV.raw (u 136), SV.raw (u 137), SV.raw (u 138), SV.raw (u 139), SV.raw (u 140),
                   SV.raw (u 141), SV.raw (u 142), SV.raw (u 143), SV.raw (u 144), SV.raw (u 145), SV.raw (u 146),
                   SV.raw (u 147), SV.raw (u 148), SV.raw (u 149), SV.raw (u 150), SV.raw (u 151), SV.raw (u 152),
                   SV.raw (u 153), SV.raw (u 154), SV.raw (u 155), SV.raw (u 156), SV.raw (u 157), SV.raw (u 158),
                   SV.raw (u 159), SV.raw (u 160), SV.raw (u 161), SV.raw (u 162), SV.raw (u 163), SV.raw (u 164),
                   SV.raw (u 165), SV.raw (u 166), SV.raw (u 167), SV.raw (u 168), SV.raw (u 169), SV.raw (u 170),
                   SV.raw (u 171), SV.raw (u 172), SV.raw (u 173), SV.raw (u 174), SV.raw (u 175), SV.raw (u 176),
                   SV.raw (u 177), SV.raw (u 178), SV.raw (u 179), SV.raw (u 180), SV.raw (u 181), SV.raw (u 182),
                   SV.raw (u 183), SV.raw (u 184), SV.raw (u 185), SV.raw (u 186), SV.raw (u 187), SV.raw (u 188),
                   SV.raw (u 189), SV.raw (u 190), SV.raw (u 191)]
                  [Ent.mk (Loc.sl ao cap) (SObj.roL 1 encU8 bs (0 : Int)),
                   pkA b ptE
                    (pExit s
                     (IntKind.wrap IntKind.i64
                      (Int.tmod (IntKind.wrap IntKind.i64 (IntKind.wrap IntKind.u8 (Int.tdiv (List.getD bs (Int.toNat i) (0 : Int)) (4 : Int))))
                       (IntKind.wrap IntKind.i64 (last + (1 : Int))) +
                       (1 : Int)))
                     (3 : Int)).1])
          | false =>
           true = true ∧
            b = b ∧
             ∃ (h : PT = PT),
              AdtIs (fun (s : PT) (b : Nat) ↦ packs (ptE s b)) ptE ∧
               pOk s ∧
                ∀ (b_1 : Nat),
                 (b_1 = b_1 ∧ true = true ∧ 6 = 6 ∧ 6 ≤ 6) ∧
                  b_1 = b_1 ∧
                   true = true ∧
                    b = b ∧
                     ∃ (h : PT = PT),
                      AdtIs (fun (s : PT) (b : Nat) ↦ packs (ptE s b)) ptE ∧
                       pOk (pReap s (1 : Int)).1 ∧
                        ∀ (b_2 : Nat),
                         (b_2 = b_2 ∧ true = true ∧ 6 = 6 ∧ 6 ≤ 6) ∧
                          match (pReap s (1 : Int)).2.2 == (0 : Int) with
                          | true =>
                           b_1 = b_1 ∧
                            match !(pReap s (1 : Int)).2.1.4 with
                            | true =>
                             N
                              [Ent.mk (Loc.sl ao cap) (SObj.roL 1 encU8 bs (0 : Int)), pkA b ptE (pReap s (1 : Int)).1,
                               Ent.mk (Loc.blk b_1)
                                (SObj.cells
                                 [SV.int IntKind.i64 (pReap s (1 : Int)).2.1.1, SV.int IntKind.i64 (pReap s (1 : Int)).2.1.2, SV.str (pReap s (1 : Int)).2.1.3,
                                  SV.bool (pReap s (1 : Int)).2.1.4, SV.int IntKind.i64 (pReap s (1 : Int)).2.1.5, SV.str (pReap s (1 : Int)).2.1.6]
                                 45),
                               Ent.mk (Loc.blk b_2)
                                (SObj.cells
                                 [SV.int IntKind.i64 (pGet (pReap s (1 : Int)).1 (pReap s (1 : Int)).2.1.1).1,
                                  SV.int IntKind.i64 (pGet (pReap s (1 : Int)).1 (pReap s (1 : Int)).2.1.1).2,
                                  SV.str (pGet (pReap s (1 : Int)).1 (pReap s (1 : Int)).2.1.1).3, SV.bool (pGet (pReap s (1 : Int)).1 (pReap s (1 : Int)).2.1.1).4,
                                  SV.int IntKind.i64 (pGet (pReap s (1 : Int)).1 (pReap s (1 : Int)).2.1.1).5,
                                  SV.str (pGet (pReap s (1 : Int)).1 (pReap s (1 : Int)).2.1.1).6]
                                 45)]
                              (SV.bool false)
                            | false =>
                             b_1 = b_1 ∧
                              match (pReap s (1 : Int)).2.1.2 != (1 : Int) with
                              | true =>
                               N
                                [Ent.mk (Loc.sl ao cap) (SObj.roL 1 encU8 bs (0 : Int)), pkA b ptE (pReap s (1 : Int)).1,
                                 Ent.mk (Loc.blk b_1)
                                  (SObj.cells
                                   [SV.int IntKind.i64 (pReap s (1 : Int)).2.1.1, SV.int IntKind.i64 (pReap s (1 : Int)).2.1.2, SV.str (pReap s (1 : Int)).2.1.3,
                                    SV.bool (pReap s (1 : Int)).2.1.4, SV.int IntKind.i64 (pReap s (1 : Int)).2.1.5, SV.str (pReap s (1 : Int)).2.1.6]
                                   45),
                                 Ent.mk (Loc.blk b_2)
                                  (SObj.cells
                                   [SV.int IntKind.i64 (pGet (pReap s (1 : Int)).1 (pReap s (1 : Int)).2.1.1).1,
                                    SV.int IntKind.i64 (pGet (pReap s (1 : Int)).1 (pReap s (1 : Int)).2.1.1).2,
                                    SV.str (pGet (pReap s (1 : Int)).1 (pReap s (1 : Int)).2.1.1).3,
                                    SV.bool (pGet (pReap s (1 : Int)).1 (pReap s (1 : Int)).2.1.1).4,
                                    SV.int IntKind.i64 (pGet (pReap s (1 : Int)).1 (pReap s (1 : Int)).2.1.1).5,
                                    SV.str (pGet (pReap s (1 : Int)).1 (pReap s (1 : Int)).2.1.1).6]
                                   45)]
                                (SV.bool false)
                              | false =>
                               match pHas (pReap s (1 : Int)).1 (pReap s (1 : Int)).2.1.1 with
                               | true =>
                                N
                                 [Ent.mk (Loc.sl ao cap) (SObj.roL 1 encU8 bs (0 : Int)), pkA b ptE (pReap s (1 : Int)).1,
                                  Ent.mk (Loc.blk b_1)
                                   (SObj.cells
                                    [SV.int IntKind.i64 (pReap s (1 : Int)).2.1.1, SV.int IntKind.i64 (pReap s (1 : Int)).2.1.2, SV.str (pReap s (1 : Int)).2.1.3,
                                     SV.bool (pReap s (1 : Int)).2.1.4, SV.int IntKind.i64 (pReap s (1 : Int)).2.1.5, SV.str (pReap s (1 : Int)).2.1.6]
                                    45),
                                  Ent.mk (Loc.blk b_2)
                                   (SObj.cells
                                    [SV.int IntKind.i64 (pGet (pReap s (1 : Int)).1 (pReap s (1 : Int)).2.1.1).1,
                                     SV.int IntKind.i64 (pGet (pReap s (1 : Int)).1 (pReap s (1 : Int)).2.1.1).2,
                                     SV.str (pGet (pReap s (1 : Int)).1 (pReap s (1 : Int)).2.1.1).3,
                                     SV.bool (pGet (pReap s (1 : Int)).1 (pReap s (1 : Int)).2.1.1).4,
                                     SV.int IntKind.i64 (pGet (pReap s (1 : Int)).1 (pReap s (1 : Int)).2.1.1).5,
                                     SV.str (pGet (pReap s (1 : Int)).1 (pReap s (1 : Int)).2.1.1).6]
                                    45)]
                                 (SV.bool false)
                               | false =>
                                K (frmR [J] (bodyOf Try.f4) 28)
                                 (Sy.mk
                                  [SV.vec 0 ao (List.length bs) cap, SV.raw (u 1), SV.raw (u 2), SV.ptr 1 b 0,
                                   SV.int IntKind.i64 last, SV.int IntKind.i64 i,
                                   SV.int IntKind.i64
                                    (IntKind.wrap IntKind.i64
                                     (Int.tmod (IntKind.wrap IntKind.i64 (IntKind.wrap IntKind.u8 (Int.tdiv (List.getD bs (Int.toNat i) (0 : Int)) (4 : Int))))
                                      (IntKind.wrap IntKind.i64 (last + (1 : Int))) +
                                      (1 : Int))),
                                   SV.raw (u 7), SV.raw (u 8), SV.raw (u 9), SV.raw (u 10), SV.ptr 2 b_1 0,
                                   SV.int IntKind.i64 (pReap s (1 : Int)).2.2, SV.ptr 3 b_2 0,
                                   SV.bool (pHas (pReap s (1 : Int)).1 (pReap s (1 : Int)).2.1.1), SV.raw (u 15), SV.raw (u 16),
                                   SV.raw (u 17), SV.raw (u 18), SV.raw (u 19), SV.raw (u 20), SV.raw (u 21),
                                   SV.raw (u 22), SV.raw (u 23), SV.raw (u 24), SV.int IntKind.i64 i,
                                   SV.vec 0 ao (List.length bs) cap, SV.int IntKind.i64 (↑(List.length bs) : Int), SV.bool true, SV.raw (u 29),
                                   SV.raw (u 30), SV.vec 0 ao (List.length bs) cap, SV.int IntKind.i64 i,
                                   SV.eptr 0 (Addr.blkD ao) (Addr.offD ao) 1 (Int.toNat i) 0,
                                   SV.int IntKind.u8 (List.getD bs (Int.toNat i) (0 : Int)),
                                   SV.int IntKind.u8 (IntKind.wrap IntKind.u8 (Int.tdiv (List.getD bs (Int.toNat i) (0 : Int)) (4 : Int))),
                                   SV.int IntKind.i64
                                    (IntKind.wrap IntKind.i64 (IntKind.wrap IntKind.u8 (Int.tdiv (List.getD bs (Int.toNat i) (0 : Int)) (4 : Int)))),
                                   SV.int IntKind.i64 last, SV.int IntKind.i64 (IntKind.wrap IntKind.i64 (last + (1 : Int))),
                                   SV.int IntKind.i64
                                    (Int.tmod (IntKind.wrap IntKind.i64 (IntKind.wrap IntKind.u8 (Int.tdiv (List.getD bs (Int.toNat i) (0 : Int)) (4 : Int))))
                                     (IntKind.wrap IntKind.i64 (last + (1 : Int)))),
                                   SV.int IntKind.i64
                                    (IntKind.wrap IntKind.i64
                                     (Int.tmod (IntKind.wrap IntKind.i64 (IntKind.wrap IntKind.u8 (Int.tdiv (List.getD bs (Int.toNat i) (0 : Int)) (4 : Int))))
                                      (IntKind.wrap IntKind.i64 (last + (1 : Int))) +
                                      (1 : Int))),
                                   SV.vec 0 ao (List.length bs) cap, SV.int IntKind.i64 i,
                                   SV.eptr 0 (Addr.blkD ao) (Addr.offD ao) 1 (Int.toNat i) 0,
                                   SV.int IntKind.u8 (List.getD bs (Int.toNat i) (0 : Int)),
                                   SV.int IntKind.u8 (Int.tmod (List.getD bs (Int.toNat i) (0 : Int)) (4 : Int)),
                                   SV.tuple
                                    [SV.agg
                                     [SV.int IntKind.i64 (pReap s (1 : Int)).2.1.1, SV.int IntKind.i64 (pReap s (1 : Int)).2.1.2,
                                      SV.str (pReap s (1 : Int)).2.1.3, SV.bool (pReap s (1 : Int)).2.1.4, SV.int IntKind.i64 (pReap s (1 : Int)).2.1.5,
                                      SV.str (pReap s (1 : Int)).2.1.6],
                                     SV.int IntKind.i64 (pReap s (1 : Int)).2.2],
                                   SV.ptr 1 b 0,
                                   SV.tuple
                                    [SV.agg
                                     [SV.int IntKind.i64 (pReap s (1 : Int)).2.1.1, SV.int IntKind.i64 (pReap s (1 : Int)).2.1.2,
                                      SV.str (pReap s (1 : Int)).2.1.3, SV.bool (pReap s (1 : Int)).2.1.4, SV.int IntKind.i64 (pReap s (1 : Int)).2.1.5,
                                      SV.str (pReap s (1 : Int)).2.1.6],
                                     SV.int IntKind.i64 (pReap s (1 : Int)).2.2],
                                   SV.agg
                                    [SV.int IntKind.i64 (pReap s (1 : Int)).2.1.1, SV.int IntKind.i64 (pReap s (1 : Int)).2.1.2, SV.str (pReap s (1 : Int)).2.1.3,
                                     SV.bool (pReap s (1 : Int)).2.1.4, SV.int IntKind.i64 (pReap s (1 : Int)).2.1.5, SV.str (pReap s (1 : Int)).2.1.6],
                                   SV.int IntKind.i64 (pReap s (1 : Int)).2.2,
                                   SV.tuple
                                    [SV.agg
                                     [SV.int IntKind.i64 (pGet (pReap s (1 : Int)).1 (pReap s (1 : Int)).2.1.1).1,
                                      SV.int IntKind.i64 (pGet (pReap s (1 : Int)).1 (pReap s (1 : Int)).2.1.1).2,
                                      SV.str (pGet (pReap s (1 : Int)).1 (pReap s (1 : Int)).2.1.1).3,
                                      SV.bool (pGet (pReap s (1 : Int)).1 (pReap s (1 : Int)).2.1.1).4,
                                      SV.int IntKind.i64 (pGet (pReap s (1 : Int)).1 (pReap s (1 : Int)).2.1.1).5,
                                      SV.str (pGet (pReap s (1 : Int)).1 (pReap s (1 : Int)).2.1.1).6],
                                     SV.bool (pHas (pReap s (1 : Int)).1 (pReap s (1 : Int)).2.1.1)],
                                   SV.ptr 1 b 0, SV.ptr 2 b_1 0, SV.int IntKind.i64 (pReap s (1 : Int)).2.1.1,
                                   SV.tuple
                                    [SV.agg
                                     [SV.int IntKind.i64 (pGet (pReap s (1 : Int)).1 (pReap s (1 : Int)).2.1.1).1,
                                      SV.int IntKind.i64 (pGet (pReap s (1 : Int)).1 (pReap s (1 : Int)).2.1.1).2,
                                      SV.str (pGet (pReap s (1 : Int)).1 (pReap s (1 : Int)).2.1.1).3,
                                      SV.bool (pGet (pReap s (1 : Int)).1 (pReap s (1 : Int)).2.1.1).4,
                                      SV.int IntKind.i64 (pGet (pReap s (1 : Int)).1 (pReap s (1 : Int)).2.1.1).5,
                                      SV.str (pGet (pReap s (1 : Int)).1 (pReap s (1 : Int)).2.1.1).6],
                                     SV.bool (pHas (pReap s (1 : Int)).1 (pReap s (1 : Int)).2.1.1)],
                                   SV.agg
                                    [SV.int IntKind.i64 (pGet (pReap s (1 : Int)).1 (pReap s (1 : Int)).2.1.1).1,
                                     SV.int IntKind.i64 (pGet (pReap s (1 : Int)).1 (pReap s (1 : Int)).2.1.1).2,
                                     SV.str (pGet (pReap s (1 : Int)).1 (pReap s (1 : Int)).2.1.1).3,
                                     SV.bool (pGet (pReap s (1 : Int)).1 (pReap s (1 : Int)).2.1.1).4,
                                     SV.int IntKind.i64 (pGet (pReap s (1 : Int)).1 (pReap s (1 : Int)).2.1.1).5,
                                     SV.str (pGet (pReap s (1 : Int)).1 (pReap s (1 : Int)).2.1.1).6],
                                   SV.bool (pHas (pReap s (1 : Int)).1 (pReap s (1 : Int)).2.1.1), SV.int IntKind.i64 (pReap s (1 : Int)).2.2,
                                   SV.bool ((pReap s (1 : Int)).2.2 == (0 : Int)), SV.bool true, SV.ptr 2 b_1 3, SV.bool (pReap s (1 : Int)).2.1.4,
                                   SV.bool !(pReap s (1 : Int)).2.1.4, SV.bool false, SV.ptr 2 b_1 1, SV.int IntKind.i64 (pReap s (1 : Int)).2.1.2,
                                   SV.bool ((pReap s (1 : Int)).2.1.2 != (1 : Int)), SV.bool ((pReap s (1 : Int)).2.1.2 != (1 : Int)), SV.bool false,
                                   SV.bool (pHas (pReap s (1 : Int)).1 (pReap s (1 : Int)).2.1.1), SV.bool (pHas (pReap s (1 : Int)).1 (pReap s (1 : Int)).2.1.1),
                                   SV.bool false, SV.bool false, SV.bool (Int.tmod (List.getD bs (Int.toNat i) (0 : Int)) (4 : Int) == (0 : Int)),
                                   SV.raw (u 75), SV.raw (u 76), SV.raw (u 77), SV.raw (u 78), SV.raw (u 79),
                                   SV.raw (u 80), SV.raw (u 81), SV.raw (u 82), SV.raw (u 83), SV.raw (u 84),
                                   SV.raw (u 85), SV.raw (u 86), SV.raw (u 87), SV.raw (u 88), SV.raw (u 89),
                                   SV.raw (u 90), SV.raw (u 91), SV.raw (u 92), SV.raw (u 93), SV.raw (u 94),
                                   SV.raw (u 95), SV.raw (u 96), SV.raw (u 97), SV.raw (u 98), SV.bool false,
                                   SV.bool (Int.tmod (List.getD bs (Int.toNat i) (0 : Int)) (4 : Int) == (1 : Int)), SV.raw (u 101), SV.raw (u 102),
                                   SV.raw (u 103), SV.raw (u 104), SV.raw (u 105), SV.raw (u 106), SV.raw (u 107),
                                   SV.raw (u 108), SV.raw (u 109), SV.raw (u 110), SV.raw (u 111), SV.raw (u 112),
                                   SV.raw (u 113), SV.raw (u 114), SV.raw (u 115), SV.raw (u 116), SV.raw (u 117),
                                   SV.bool false, SV.bool (Int.tmod (List.getD bs (Int.toNat i) (0 : Int)) (4 : Int) == (2 : Int)), SV.raw (u 120),
                                   SV.raw (u 121), SV.raw (u 122), SV.raw (u 123), SV.raw (u 124), SV.raw (u 125),
                                   SV.raw (u 126), SV.raw (u 127), SV.raw (u 128), SV.raw (u 129), SV.raw (u 130),
                                   SV.raw (u 131), SV.raw (u 132), SV.raw (u 133), SV.raw (u 134), SV.raw (u 135),
                                   SV.raw (u 136), SV.raw (u 137), SV.raw (u 138), SV.raw (u 139), SV.raw (u 140),
                                   SV.raw (u 141), SV.raw (u 142), SV.raw (u 143), SV.raw (u 144), SV.raw (u 145),
                                   SV.raw (u 146), SV.raw (u 147), SV.raw (u 148), SV.raw (u 149), SV.raw (u 150),
                                   SV.raw (u 151), SV.raw (u 152), SV.raw (u 153), SV.raw (u 154), SV.raw (u 155),
                                   SV.raw (u 156), SV.raw (u 157), SV.raw (u 158), SV.raw (u 159), SV.raw (u 160),
                                   SV.raw (u 161), SV.raw (u 162), SV.raw (u 163), SV.raw (u 164), SV.raw (u 165),
                                   SV.raw (u 166), SV.raw (u 167), SV.raw (u 168), SV.raw (u 169), SV.raw (u 170),
                                   SV.raw (u 171), SV.raw (u 172), SV.raw (u 173), SV.raw (u 174), SV.raw (u 175),
                                   SV.raw (u 176), SV.raw (u 177), SV.raw (u 178), SV.raw (u 179), SV.raw (u 180),
                                   SV.raw (u 181), SV.raw (u 182), SV.raw (u 183), SV.raw (u 184), SV.raw (u 185),
                                   SV.raw (u 186), SV.raw (u 187), SV.raw (u 188), SV.raw (u 189), SV.raw (u 190),
                                   SV.raw (u 191)]
                                  [Ent.mk (Loc.sl ao cap) (SObj.roL 1 encU8 bs (0 : Int)), pkA b ptE (pReap s (1 : Int)).1,
                                   Ent.mk (Loc.blk b_1)
                                    (SObj.cells
                                     [SV.int IntKind.i64 (pReap s (1 : Int)).2.1.1, SV.int IntKind.i64 (pReap s (1 : Int)).2.1.2, SV.str (pReap s (1 : Int)).2.1.3,
                                      SV.bool (pReap s (1 : Int)).2.1.4, SV.int IntKind.i64 (pReap s (1 : Int)).2.1.5, SV.str (pReap s (1 : Int)).2.1.6]
                                     45),
                                   Ent.mk (Loc.blk b_2)
                                    (SObj.cells
                                     [SV.int IntKind.i64 (pGet (pReap s (1 : Int)).1 (pReap s (1 : Int)).2.1.1).1,
                                      SV.int IntKind.i64 (pGet (pReap s (1 : Int)).1 (pReap s (1 : Int)).2.1.1).2,
                                      SV.str (pGet (pReap s (1 : Int)).1 (pReap s (1 : Int)).2.1.1).3,
                                      SV.bool (pGet (pReap s (1 : Int)).1 (pReap s (1 : Int)).2.1.1).4,
                                      SV.int IntKind.i64 (pGet (pReap s (1 : Int)).1 (pReap s (1 : Int)).2.1.1).5,
                                      SV.str (pGet (pReap s (1 : Int)).1 (pReap s (1 : Int)).2.1.1).6]
                                     45)])
                          | false =>
                           true = true ∧
                            true = true ∧
                             true = true ∧
                              true = true ∧
                               K (frmR [J] (bodyOf Try.f4) 28)
                                (Sy.mk
                                 [SV.vec 0 ao (List.length bs) cap, SV.raw (u 1), SV.raw (u 2), SV.ptr 1 b 0,
                                  SV.int IntKind.i64 last, SV.int IntKind.i64 i,
                                  SV.int IntKind.i64
                                   (IntKind.wrap IntKind.i64
                                    (Int.tmod (IntKind.wrap IntKind.i64 (IntKind.wrap IntKind.u8 (Int.tdiv (List.getD bs (Int.toNat i) (0 : Int)) (4 : Int))))
                                     (IntKind.wrap IntKind.i64 (last + (1 : Int))) +
                                     (1 : Int))),
                                  SV.raw (u 7), SV.raw (u 8), SV.raw (u 9), SV.raw (u 10), SV.ptr 2 b_1 0,
                                  SV.int IntKind.i64 (pReap s (1 : Int)).2.2, SV.ptr 3 b_2 0,
                                  SV.bool (pHas (pReap s (1 : Int)).1 (pReap s (1 : Int)).2.1.1), SV.raw (u 15), SV.raw (u 16), SV.raw (u 17),
                                  SV.raw (u 18), SV.raw (u 19), SV.raw (u 20), SV.raw (u 21), SV.raw (u 22),
                                  SV.raw (u 23), SV.raw (u 24), SV.int IntKind.i64 i, SV.vec 0 ao (List.length bs) cap,
                                  SV.int IntKind.i64 (↑(List.length bs) : Int), SV.bool true, SV.raw (u 29), SV.raw (u 30),
                                  SV.vec 0 ao (List.length bs) cap, SV.int IntKind.i64 i,
                                  SV.eptr 0 (Addr.blkD ao) (Addr.offD ao) 1 (Int.toNat i) 0,
                                  SV.int IntKind.u8 (List.getD bs (Int.toNat i) (0 : Int)),
                                  SV.int IntKind.u8 (IntKind.wrap IntKind.u8 (Int.tdiv (List.getD bs (Int.toNat i) (0 : Int)) (4 : Int))),
                                  SV.int IntKind.i64 (IntKind.wrap IntKind.i64 (IntKind.wrap IntKind.u8 (Int.tdiv (List.getD bs (Int.toNat i) (0 : Int)) (4 : Int)))),
                                  SV.int IntKind.i64 last, SV.int IntKind.i64 (IntKind.wrap IntKind.i64 (last + (1 : Int))),
                                  SV.int IntKind.i64
                                   (Int.tmod (IntKind.wrap IntKind.i64 (IntKind.wrap IntKind.u8 (Int.tdiv (List.getD bs (Int.toNat i) (0 : Int)) (4 : Int))))
                                    (IntKind.wrap IntKind.i64 (last + (1 : Int)))),
                                  SV.int IntKind.i64
                                   (IntKind.wrap IntKind.i64
                                    (Int.tmod (IntKind.wrap IntKind.i64 (IntKind.wrap IntKind.u8 (Int.tdiv (List.getD bs (Int.toNat i) (0 : Int)) (4 : Int))))
                                     (IntKind.wrap IntKind.i64 (last + (1 : Int))) +
                                     (1 : Int))),
                                  SV.vec 0 ao (List.length bs) cap, SV.int IntKind.i64 i,
                                  SV.eptr 0 (Addr.blkD ao) (Addr.offD ao) 1 (Int.toNat i) 0,
                                  SV.int IntKind.u8 (List.getD bs (Int.toNat i) (0 : Int)),
                                  SV.int IntKind.u8 (Int.tmod (List.getD bs (Int.toNat i) (0 : Int)) (4 : Int)),
                                  SV.tuple
                                   [SV.agg
                                    [SV.int IntKind.i64 (pReap s (1 : Int)).2.1.1, SV.int IntKind.i64 (pReap s (1 : Int)).2.1.2, SV.str (pReap s (1 : Int)).2.1.3,
                                     SV.bool (pReap s (1 : Int)).2.1.4, SV.int IntKind.i64 (pReap s (1 : Int)).2.1.5, SV.str (pReap s (1 : Int)).2.1.6],
                                    SV.int IntKind.i64 (pReap s (1 : Int)).2.2],
                                  SV.ptr 1 b 0,
                                  SV.tuple
                                   [SV.agg
                                    [SV.int IntKind.i64 (pReap s (1 : Int)).2.1.1, SV.int IntKind.i64 (pReap s (1 : Int)).2.1.2, SV.str (pReap s (1 : Int)).2.1.3,
                                     SV.bool (pReap s (1 : Int)).2.1.4, SV.int IntKind.i64 (pReap s (1 : Int)).2.1.5, SV.str (pReap s (1 : Int)).2.1.6],
                                    SV.int IntKind.i64 (pReap s (1 : Int)).2.2],
                                  SV.agg
                                   [SV.int IntKind.i64 (pReap s (1 : Int)).2.1.1, SV.int IntKind.i64 (pReap s (1 : Int)).2.1.2, SV.str (pReap s (1 : Int)).2.1.3,
                                    SV.bool (pReap s (1 : Int)).2.1.4, SV.int IntKind.i64 (pReap s (1 : Int)).2.1.5, SV.str (pReap s (1 : Int)).2.1.6],
                                  SV.int IntKind.i64 (pReap s (1 : Int)).2.2,
                                  SV.tuple
                                   [SV.agg
                                    [SV.int IntKind.i64 (pGet (pReap s (1 : Int)).1 (pReap s (1 : Int)).2.1.1).1,
                                     SV.int IntKind.i64 (pGet (pReap s (1 : Int)).1 (pReap s (1 : Int)).2.1.1).2,
                                     SV.str (pGet (pReap s (1 : Int)).1 (pReap s (1 : Int)).2.1.1).3,
                                     SV.bool (pGet (pReap s (1 : Int)).1 (pReap s (1 : Int)).2.1.1).4,
                                     SV.int IntKind.i64 (pGet (pReap s (1 : Int)).1 (pReap s (1 : Int)).2.1.1).5,
                                     SV.str (pGet (pReap s (1 : Int)).1 (pReap s (1 : Int)).2.1.1).6],
                                    SV.bool (pHas (pReap s (1 : Int)).1 (pReap s (1 : Int)).2.1.1)],
                                  SV.ptr 1 b 0, SV.ptr 2 b_1 0, SV.int IntKind.i64 (pReap s (1 : Int)).2.1.1,
                                  SV.tuple
                                   [SV.agg
                                    [SV.int IntKind.i64 (pGet (pReap s (1 : Int)).1 (pReap s (1 : Int)).2.1.1).1,
                                     SV.int IntKind.i64 (pGet (pReap s (1 : Int)).1 (pReap s (1 : Int)).2.1.1).2,
                                     SV.str (pGet (pReap s (1 : Int)).1 (pReap s (1 : Int)).2.1.1).3,
                                     SV.bool (pGet (pReap s (1 : Int)).1 (pReap s (1 : Int)).2.1.1).4,
                                     SV.int IntKind.i64 (pGet (pReap s (1 : Int)).1 (pReap s (1 : Int)).2.1.1).5,
                                     SV.str (pGet (pReap s (1 : Int)).1 (pReap s (1 : Int)).2.1.1).6],
                                    SV.bool (pHas (pReap s (1 : Int)).1 (pReap s (1 : Int)).2.1.1)],
                                  SV.agg
                                   [SV.int IntKind.i64 (pGet (pReap s (1 : Int)).1 (pReap s (1 : Int)).2.1.1).1,
                                    SV.int IntKind.i64 (pGet (pReap s (1 : Int)).1 (pReap s (1 : Int)).2.1.1).2,
                                    SV.str (pGet (pReap s (1 : Int)).1 (pReap s (1 : Int)).2.1.1).3,
                                    SV.bool (pGet (pReap s (1 : Int)).1 (pReap s (1 : Int)).2.1.1).4,
                                    SV.int IntKind.i64 (pGet (pReap s (1 : Int)).1 (pReap s (1 : Int)).2.1.1).5,
                                    SV.str (pGet (pReap s (1 : Int)).1 (pReap s (1 : Int)).2.1.1).6],
                                  SV.bool (pHas (pReap s (1 : Int)).1 (pReap s (1 : Int)).2.1.1), SV.int IntKind.i64 (pReap s (1 : Int)).2.2,
                                  SV.bool ((pReap s (1 : Int)).2.2 == (0 : Int)), SV.bool false, SV.raw (Value.tuple #[]), SV.raw (Value.tuple #[]),
                                  SV.raw (Value.tuple #[]), SV.raw (Value.tuple #[]), SV.raw (Value.tuple #[]), SV.raw (Value.tuple #[]), SV.raw (Value.tuple #[]),
                                  SV.raw (Value.tuple #[]), SV.raw (Value.tuple #[]), SV.raw (Value.tuple #[]), SV.raw (Value.tuple #[]), SV.bool false,
                                  SV.bool false, SV.bool (Int.tmod (List.getD bs (Int.toNat i) (0 : Int)) (4 : Int) == (0 : Int)), SV.raw (u 75),
                                  SV.raw (u 76), SV.raw (u 77), SV.raw (u 78), SV.raw (u 79), SV.raw (u 80),
                                  SV.raw (u 81), SV.raw (u 82), SV.raw (u 83), SV.raw (u 84), SV.raw (u 85),
                                  SV.raw (u 86), SV.raw (u 87), SV.raw (u 88), SV.raw (u 89), SV.raw (u 90),
                                  SV.raw (u 91), SV.raw (u 92), SV.raw (u 93), SV.raw (u 94), SV.raw (u 95),
                                  SV.raw (u 96), SV.raw (u 97), SV.raw (u 98), SV.bool false,
                                  SV.bool (Int.tmod (List.getD bs (Int.toNat i) (0 : Int)) (4 : Int) == (1 : Int)), SV.raw (u 101), SV.raw (u 102),
                                  SV.raw (u 103), SV.raw (u 104), SV.raw (u 105), SV.raw (u 106), SV.raw (u 107),
                                  SV.raw (u 108), SV.raw (u 109), SV.raw (u 110), SV.raw (u 111), SV.raw (u 112),
                                  SV.raw (u 113), SV.raw (u 114), SV.raw (u 115), SV.raw (u 116), SV.raw (u 117),
                                  SV.bool false, SV.bool (Int.tmod (List.getD bs (Int.toNat i) (0 : Int)) (4 : Int) == (2 : Int)), SV.raw (u 120),
                                  SV.raw (u 121), SV.raw (u 122), SV.raw (u 123), SV.raw (u 124), SV.raw (u 125),
                                  SV.raw (u 126), SV.raw (u 127), SV.raw (u 128), SV.raw (u 129), SV.raw (u 130),
                                  SV.raw (u 131), SV.raw (u 132), SV.raw (u 133), SV.raw (u 134), SV.raw (u 135),
                                  SV.raw (u 136), SV.raw (u 137), SV.raw (u 138), SV.raw (u 139), SV.raw (u 140),
                                  SV.raw (u 141), SV.raw (u 142), SV.raw (u 143), SV.raw (u 144), SV.raw (u 145),
                                  SV.raw (u 146), SV.raw (u 147), SV.raw (u 148), SV.raw (u 149), SV.raw (u 150),
                                  SV.raw (u 151), SV.raw (u 152), SV.raw (u 153), SV.raw (u 154), SV.raw (u 155),
                                  SV.raw (u 156), SV.raw (u 157), SV.raw (u 158), SV.raw (u 159), SV.raw (u 160),
                                  SV.raw (u 161), SV.raw (u 162), SV.raw (u 163), SV.raw (u 164), SV.raw (u 165),
                                  SV.raw (u 166), SV.raw (u 167), SV.raw (u 168), SV.raw (u 169), SV.raw (u 170),
                                  SV.raw (u 171), SV.raw (u 172), SV.raw (u 173), SV.raw (u 174), SV.raw (u 175),
                                  SV.raw (u 176), SV.raw (u 177), SV.raw (u 178), SV.raw (u 179), SV.raw (u 180),
                                  SV.raw (u 181), SV.raw (u 182), SV.raw (u 183), SV.raw (u 184), SV.raw (u 185),
                                  SV.raw (u 186), SV.raw (u 187), SV.raw (u 188), SV.raw (u 189), SV.raw (u 190),
                                  SV.raw (u 191)]
                                 [Ent.mk (Loc.sl ao cap) (SObj.roL 1 encU8 bs (0 : Int)), pkA b ptE (pReap s (1 : Int)).1,
                                  Ent.mk (Loc.blk b_1)
                                   (SObj.cells
                                    [SV.int IntKind.i64 (pReap s (1 : Int)).2.1.1, SV.int IntKind.i64 (pReap s (1 : Int)).2.1.2, SV.str (pReap s (1 : Int)).2.1.3,
                                     SV.bool (pReap s (1 : Int)).2.1.4, SV.int IntKind.i64 (pReap s (1 : Int)).2.1.5, SV.str (pReap s (1 : Int)).2.1.6]
                                    45),
                                  Ent.mk (Loc.blk b_2)
                                   (SObj.cells
                                    [SV.int IntKind.i64 (pGet (pReap s (1 : Int)).1 (pReap s (1 : Int)).2.1.1).1,
                                     SV.int IntKind.i64 (pGet (pReap s (1 : Int)).1 (pReap s (1 : Int)).2.1.1).2,
                                     SV.str (pGet (pReap s (1 : Int)).1 (pReap s (1 : Int)).2.1.1).3,
                                     SV.bool (pGet (pReap s (1 : Int)).1 (pReap s (1 : Int)).2.1.1).4,
                                     SV.int IntKind.i64 (pGet (pReap s (1 : Int)).1 (pReap s (1 : Int)).2.1.1).5,
                                     SV.str (pGet (pReap s (1 : Int)).1 (pReap s (1 : Int)).2.1.1).6]
                                    45)])
| false => N [Ent.mk (Loc.sl ao cap) (SObj.roL 1 encU8 bs (0 : Int)), pkA b ptE s] (SV.bool true)) := by kernel_rfl


theorem tr_28 (K : List Frm → Sy → Prop) (N : List Ent → SV → Prop) (J0 : Act → World → Prop) (ao : Option Addr) (cap : Nat) (bs : List Int) (b : Nat) (s : PT) (last i : Int) (u : Nat → Value) : (run Try.prog ptTk false [] K (retP Try.prog Try.f4.results.toList N) 1500 (frmR [J0] (bodyOf Try.f4) 28) ⟨mkT u 192 0 [(0, .vec 0 ao bs.length cap), (3, .ptr 1 b 0), (4, .int .i64 last), (5, .int .i64 i)], [⟨.sl ao cap, .roL 1 encU8 bs 0⟩, pkA b ptE s]⟩) = (
true = true ∧
 b = b ∧
  ∃ (h : PT = PT),
   AdtIs (fun (s : PT) (b : Nat) ↦ packs (ptE s b)) ptE ∧
    (pOk (cast h s) ∧ List.length s.2 ≤ 200) ∧
     ∀ (ao_1 : Option Addr) (cap_1 : Nat),
      match (↑(List.length (upto (0 : Int) (List.map (fun (x : Nat × PR) ↦ x.snd) s.2))) : Int) == (0 : Int) with
      | true =>
       N
        [Ent.mk (Loc.sl ao cap) (SObj.roL 1 encU8 bs (0 : Int)), pkA b ptE s,
         Ent.mk (Loc.sl ao_1 cap_1)
          (SObj.vecL (45 : TypeId) 6 encP6 (upto (0 : Int) (List.map (fun (x : Nat × PR) ↦ x.snd) s.2))
           (PR.mk (0 : Int) (0 : Int) (ByteArray.mk #[]) false (0 : Int) (ByteArray.mk #[]) false false))]
        (SV.bool false)
      | false =>
       (ao_1 = ao_1 ∧
        cap_1 = cap_1 ∧
         List.length (upto (0 : Int) (List.map (fun (x : Nat × PR) ↦ x.snd) s.2)) = List.length (upto (0 : Int) (List.map (fun (x : Nat × PR) ↦ x.snd) s.2)) ∧
          (0 : Int) ≤ (0 : Int) ∧ (0 : Int) < (↑(List.length (upto (0 : Int) (List.map (fun (x : Nat × PR) ↦ x.snd) s.2))) : Int)) ∧
        (Addr.blkD ao_1 = Addr.blkD ao_1 ∧
         Addr.offD ao_1 = Addr.offD ao_1 ∧ 6 = 6 ∧ 0 < List.length (upto (0 : Int) (List.map (fun (x : Nat × PR) ↦ x.snd) s.2)) ∧ 6 = 6) ∧
         (true = true ∧ true = true) ∧
          match
           !((List.getD (upto (0 : Int) (List.map (fun (x : Nat × PR) ↦ x.snd) s.2)) 0
            (PR.mk (0 : Int) (0 : Int) (ByteArray.mk #[]) false (0 : Int) (ByteArray.mk #[]) false false)).1 ==
            (1 : Int) &&
            ((List.getD (upto (0 : Int) (List.map (fun (x : Nat × PR) ↦ x.snd) s.2)) 0
             (PR.mk (0 : Int) (0 : Int) (ByteArray.mk #[]) false (0 : Int) (ByteArray.mk #[]) false false)).2 ==
             (0 : Int) &&
             (sEq
              (List.getD (upto (0 : Int) (List.map (fun (x : Nat × PR) ↦ x.snd) s.2)) 0
               (PR.mk (0 : Int) (0 : Int) (ByteArray.mk #[]) false (0 : Int) (ByteArray.mk #[]) false false)).3
              (ByteArray.mk #[]) &&
              ((List.getD (upto (0 : Int) (List.map (fun (x : Nat × PR) ↦ x.snd) s.2)) 0
               (PR.mk (0 : Int) (0 : Int) (ByteArray.mk #[]) false (0 : Int) (ByteArray.mk #[]) false false)).4 ==
               false &&
               ((List.getD (upto (0 : Int) (List.map (fun (x : Nat × PR) ↦ x.snd) s.2)) 0
                (PR.mk (0 : Int) (0 : Int) (ByteArray.mk #[]) false (0 : Int) (ByteArray.mk #[]) false false)).5 ==
                (0 : Int) &&
                (sEq
                 (List.getD (upto (0 : Int) (List.map (fun (x : Nat × PR) ↦ x.snd) s.2)) 0
                  (PR.mk (0 : Int) (0 : Int) (ByteArray.mk #[]) false (0 : Int) (ByteArray.mk #[]) false false)).6
                 (ByteArray.mk #[]) &&
                 true)))))) with
          | true =>
           N
            [Ent.mk (Loc.sl ao cap) (SObj.roL 1 encU8 bs (0 : Int)), pkA b ptE s,
             Ent.mk (Loc.sl ao_1 cap_1)
              (SObj.vecL (45 : TypeId) 6 encP6 (upto (0 : Int) (List.map (fun (x : Nat × PR) ↦ x.snd) s.2))
               (PR.mk (0 : Int) (0 : Int) (ByteArray.mk #[]) false (0 : Int) (ByteArray.mk #[]) false false))]
            (SV.bool false)
          | false =>
           true = true ∧
            b = b ∧
             ∃ (h : PT = PT),
              AdtIs (fun (s : PT) (b : Nat) ↦ packs (ptE s b)) ptE ∧
               pOk s ∧
                match
                 (↑(List.length (upto (0 : Int) (List.map (fun (x : Nat × PR) ↦ x.snd) s.2))) : Int) !=
                  IntKind.wrap IntKind.i64 ((↑(List.length s.2) : Int) - (1 : Int) + (1 : Int)) with
                | true =>
                 N
                  [Ent.mk (Loc.sl ao cap) (SObj.roL 1 encU8 bs (0 : Int)), pkA b ptE s,
                   Ent.mk (Loc.sl ao_1 cap_1)
                    (SObj.vecL (45 : TypeId) 6 encP6 (upto (0 : Int) (List.map (fun (x : Nat × PR) ↦ x.snd) s.2))
                     (PR.mk (0 : Int) (0 : Int) (ByteArray.mk #[]) false (0 : Int) (ByteArray.mk #[]) false false))]
                  (SV.bool false)
                | false =>
                 K
                  (frm [J0] (bodyOf Try.f4)
                   [1, 1, 1, 1, 1, 0, 1, 0, 0, 1, 0, 0, 1, 1,
                    1, 1, 1, 0]
                   [])
                  (Sy.mk
                   [SV.vec 0 ao (List.length bs) cap, SV.raw (u 1), SV.raw (u 2), SV.ptr 1 b 0, SV.int IntKind.i64 last,
                    SV.int IntKind.i64 i, SV.raw (u 6), SV.raw (u 7), SV.raw (u 8), SV.raw (u 9), SV.raw (u 10), SV.raw (u 11),
                    SV.raw (u 12), SV.raw (u 13), SV.raw (u 14),
                    SV.vec 2 ao_1 (List.length (upto (0 : Int) (List.map (fun (x : Nat × PR) ↦ x.snd) s.2))) cap_1, SV.int IntKind.i64 (1 : Int), SV.raw (u 17),
                    SV.raw (u 18), SV.raw (u 19), SV.raw (u 20), SV.raw (u 21), SV.raw (u 22), SV.raw (u 23), SV.raw (u 24),
                    SV.raw (u 25), SV.raw (u 26), SV.raw (u 27), SV.raw (u 28), SV.raw (u 29), SV.raw (u 30), SV.raw (u 31),
                    SV.raw (u 32), SV.raw (u 33), SV.raw (u 34), SV.raw (u 35), SV.raw (u 36), SV.raw (u 37), SV.raw (u 38),
                    SV.raw (u 39), SV.raw (u 40), SV.raw (u 41), SV.raw (u 42), SV.raw (u 43), SV.raw (u 44), SV.raw (u 45),
                    SV.raw (u 46), SV.raw (u 47), SV.raw (u 48), SV.raw (u 49), SV.raw (u 50), SV.raw (u 51), SV.raw (u 52),
                    SV.raw (u 53), SV.raw (u 54), SV.raw (u 55), SV.raw (u 56), SV.raw (u 57), SV.raw (u 58), SV.raw (u 59),
                    SV.raw (u 60), SV.raw (u 61), SV.raw (u 62), SV.raw (u 63), SV.raw (u 64), SV.raw (u 65), SV.raw (u 66),
                    SV.raw (u 67), SV.raw (u 68), SV.raw (u 69), SV.raw (u 70), SV.raw (u 71), SV.raw (u 72), SV.raw (u 73),
                    SV.raw (u 74), SV.raw (u 75), SV.raw (u 76), SV.raw (u 77), SV.raw (u 78), SV.raw (u 79), SV.raw (u 80),
                    SV.raw (u 81), SV.raw (u 82), SV.raw (u 83), SV.raw (u 84), SV.raw (u 85), SV.raw (u 86), SV.raw (u 87),
                    SV.raw (u 88), SV.raw (u 89), SV.raw (u 90), SV.raw (u 91), SV.raw (u 92), SV.raw (u 93), SV.raw (u 94),
                    SV.raw (u 95), SV.raw (u 96), SV.raw (u 97), SV.raw (u 98), SV.raw (u 99), SV.raw (u 100),
                    SV.raw (u 101), SV.raw (u 102), SV.raw (u 103), SV.raw (u 104), SV.raw (u 105), SV.raw (u 106),
                    SV.raw (u 107), SV.raw (u 108), SV.raw (u 109), SV.raw (u 110), SV.raw (u 111), SV.raw (u 112),
                    SV.raw (u 113), SV.raw (u 114), SV.raw (u 115), SV.raw (u 116), SV.raw (u 117), SV.raw (u 118),
                    SV.raw (u 119), SV.raw (u 120), SV.raw (u 121), SV.raw (u 122), SV.ptr 1 b 0,
                    SV.vec 2 ao_1 (List.length (upto (0 : Int) (List.map (fun (x : Nat × PR) ↦ x.snd) s.2))) cap_1,
                    SV.vec 2 ao_1 (List.length (upto (0 : Int) (List.map (fun (x : Nat × PR) ↦ x.snd) s.2))) cap_1,
                    SV.int IntKind.i64 (↑(List.length (upto (0 : Int) (List.map (fun (x : Nat × PR) ↦ x.snd) s.2))) : Int),
                    SV.bool ((↑(List.length (upto (0 : Int) (List.map (fun (x : Nat × PR) ↦ x.snd) s.2))) : Int) == (0 : Int)), SV.bool false,
                    SV.vec 2 ao_1 (List.length (upto (0 : Int) (List.map (fun (x : Nat × PR) ↦ x.snd) s.2))) cap_1,
                    SV.eptr 2 (Addr.blkD ao_1) (Addr.offD ao_1) 6 0 0,
                    SV.agg
                     [SV.int IntKind.i64
                      (List.getD (upto (0 : Int) (List.map (fun (x : Nat × PR) ↦ x.snd) s.2)) 0
                       (PR.mk (0 : Int) (0 : Int) (ByteArray.mk #[]) false (0 : Int) (ByteArray.mk #[]) false false)).1,
                      SV.int IntKind.i64
                       (List.getD (upto (0 : Int) (List.map (fun (x : Nat × PR) ↦ x.snd) s.2)) 0
                        (PR.mk (0 : Int) (0 : Int) (ByteArray.mk #[]) false (0 : Int) (ByteArray.mk #[]) false false)).2,
                      SV.str
                       (List.getD (upto (0 : Int) (List.map (fun (x : Nat × PR) ↦ x.snd) s.2)) 0
                        (PR.mk (0 : Int) (0 : Int) (ByteArray.mk #[]) false (0 : Int) (ByteArray.mk #[]) false false)).3,
                      SV.bool
                       (List.getD (upto (0 : Int) (List.map (fun (x : Nat × PR) ↦ x.snd) s.2)) 0
                        (PR.mk (0 : Int) (0 : Int) (ByteArray.mk #[]) false (0 : Int) (ByteArray.mk #[]) false false)).4,
                      SV.int IntKind.i64
                       (List.getD (upto (0 : Int) (List.map (fun (x : Nat × PR) ↦ x.snd) s.2)) 0
                        (PR.mk (0 : Int) (0 : Int) (ByteArray.mk #[]) false (0 : Int) (ByteArray.mk #[]) false false)).5,
                      SV.str
                       (List.getD (upto (0 : Int) (List.map (fun (x : Nat × PR) ↦ x.snd) s.2)) 0
                        (PR.mk (0 : Int) (0 : Int) (ByteArray.mk #[]) false (0 : Int) (ByteArray.mk #[]) false false)).6],
                    SV.agg
                     [SV.int IntKind.i64 (1 : Int), SV.int IntKind.i64 (0 : Int), SV.str (ByteArray.mk #[]), SV.bool false, SV.int IntKind.i64 (0 : Int),
                      SV.str (ByteArray.mk #[])],
                    SV.bool
                     !((List.getD (upto (0 : Int) (List.map (fun (x : Nat × PR) ↦ x.snd) s.2)) 0
                      (PR.mk (0 : Int) (0 : Int) (ByteArray.mk #[]) false (0 : Int) (ByteArray.mk #[]) false false)).1 ==
                      (1 : Int) &&
                      ((List.getD (upto (0 : Int) (List.map (fun (x : Nat × PR) ↦ x.snd) s.2)) 0
                       (PR.mk (0 : Int) (0 : Int) (ByteArray.mk #[]) false (0 : Int) (ByteArray.mk #[]) false false)).2 ==
                       (0 : Int) &&
                       (sEq
                        (List.getD (upto (0 : Int) (List.map (fun (x : Nat × PR) ↦ x.snd) s.2)) 0
                         (PR.mk (0 : Int) (0 : Int) (ByteArray.mk #[]) false (0 : Int) (ByteArray.mk #[]) false false)).3
                        (ByteArray.mk #[]) &&
                        ((List.getD (upto (0 : Int) (List.map (fun (x : Nat × PR) ↦ x.snd) s.2)) 0
                         (PR.mk (0 : Int) (0 : Int) (ByteArray.mk #[]) false (0 : Int) (ByteArray.mk #[]) false false)).4 ==
                         false &&
                         ((List.getD (upto (0 : Int) (List.map (fun (x : Nat × PR) ↦ x.snd) s.2)) 0
                          (PR.mk (0 : Int) (0 : Int) (ByteArray.mk #[]) false (0 : Int) (ByteArray.mk #[]) false false)).5 ==
                          (0 : Int) &&
                          (sEq
                           (List.getD (upto (0 : Int) (List.map (fun (x : Nat × PR) ↦ x.snd) s.2)) 0
                            (PR.mk (0 : Int) (0 : Int) (ByteArray.mk #[]) false (0 : Int) (ByteArray.mk #[]) false false)).6
                           (ByteArray.mk #[]) &&
                           true)))))),
                    SV.bool
                     !((List.getD (upto (0 : Int) (List.map (fun (x : Nat × PR) ↦ x.snd) s.2)) 0
                      (PR.mk (0 : Int) (0 : Int) (ByteArray.mk #[]) false (0 : Int) (ByteArray.mk #[]) false false)).1 ==
                      (1 : Int) &&
                      ((List.getD (upto (0 : Int) (List.map (fun (x : Nat × PR) ↦ x.snd) s.2)) 0
                       (PR.mk (0 : Int) (0 : Int) (ByteArray.mk #[]) false (0 : Int) (ByteArray.mk #[]) false false)).2 ==
                       (0 : Int) &&
                       (sEq
                        (List.getD (upto (0 : Int) (List.map (fun (x : Nat × PR) ↦ x.snd) s.2)) 0
                         (PR.mk (0 : Int) (0 : Int) (ByteArray.mk #[]) false (0 : Int) (ByteArray.mk #[]) false false)).3
                        (ByteArray.mk #[]) &&
                        ((List.getD (upto (0 : Int) (List.map (fun (x : Nat × PR) ↦ x.snd) s.2)) 0
                         (PR.mk (0 : Int) (0 : Int) (ByteArray.mk #[]) false (0 : Int) (ByteArray.mk #[]) false false)).4 ==
                         false &&
                         ((List.getD (upto (0 : Int) (List.map (fun (x : Nat × PR) ↦ x.snd) s.2)) 0
                          (PR.mk (0 : Int) (0 : Int) (ByteArray.mk #[]) false (0 : Int) (ByteArray.mk #[]) false false)).5 ==
                          (0 : Int) &&
                          (sEq
                           (List.getD (upto (0 : Int) (List.map (fun (x : Nat × PR) ↦ x.snd) s.2)) 0
                            (PR.mk (0 : Int) (0 : Int) (ByteArray.mk #[]) false (0 : Int) (ByteArray.mk #[]) false false)).6
                           (ByteArray.mk #[]) &&
                           true)))))),
                    SV.bool false, SV.vec 2 ao_1 (List.length (upto (0 : Int) (List.map (fun (x : Nat × PR) ↦ x.snd) s.2))) cap_1,
                    SV.int IntKind.i64 (↑(List.length (upto (0 : Int) (List.map (fun (x : Nat × PR) ↦ x.snd) s.2))) : Int), SV.ptr 1 b 0,
                    SV.int IntKind.i64 ((↑(List.length s.2) : Int) - (1 : Int)), SV.int IntKind.i64 (IntKind.wrap IntKind.i64 ((↑(List.length s.2) : Int) - (1 : Int) + (1 : Int))),
                    SV.bool
                     ((↑(List.length (upto (0 : Int) (List.map (fun (x : Nat × PR) ↦ x.snd) s.2))) : Int) !=
                      IntKind.wrap IntKind.i64 ((↑(List.length s.2) : Int) - (1 : Int) + (1 : Int))),
                    SV.bool false, SV.raw (u 143), SV.raw (u 144), SV.raw (u 145), SV.raw (u 146), SV.raw (u 147), SV.raw (u 148),
                    SV.raw (u 149), SV.raw (u 150), SV.raw (u 151), SV.raw (u 152), SV.raw (u 153), SV.raw (u 154),
                    SV.raw (u 155), SV.raw (u 156), SV.raw (u 157), SV.raw (u 158), SV.raw (u 159), SV.raw (u 160),
                    SV.raw (u 161), SV.raw (u 162), SV.raw (u 163), SV.raw (u 164), SV.raw (u 165), SV.raw (u 166),
                    SV.raw (u 167), SV.raw (u 168), SV.raw (u 169), SV.raw (u 170), SV.raw (u 171), SV.raw (u 172),
                    SV.raw (u 173), SV.raw (u 174), SV.raw (u 175), SV.raw (u 176), SV.raw (u 177), SV.raw (u 178),
                    SV.raw (u 179), SV.raw (u 180), SV.raw (u 181), SV.raw (u 182), SV.raw (u 183), SV.raw (u 184),
                    SV.raw (u 185), SV.raw (u 186), SV.raw (u 187), SV.raw (u 188), SV.raw (u 189), SV.raw (u 190),
                    SV.raw (u 191)]
                   [Ent.mk (Loc.sl ao cap) (SObj.roL 1 encU8 bs (0 : Int)), pkA b ptE s,
                    Ent.mk (Loc.sl ao_1 cap_1)
                     (SObj.vecL (45 : TypeId) 6 encP6 (upto (0 : Int) (List.map (fun (x : Nat × PR) ↦ x.snd) s.2))
                      (PR.mk (0 : Int) (0 : Int) (ByteArray.mk #[]) false (0 : Int) (ByteArray.mk #[]) false false))])) := by kernel_rfl


theorem tr_l2 (K : List Frm → Sy → Prop) (N : List Ent → SV → Prop) (J0 J1 : Act → World → Prop) (ao : Option Addr) (cap : Nat) (bs : List Int) (b : Nat) (s : PT) (last i : Int) (aA : Option Addr) (cA : Nat) (A : List PR) (k : Int) (u : Nat → Value) : (run Try.prog ptTk true [] K (retP Try.prog Try.f4.results.toList N) 2500 (frm [J0, J1] (bodyOf Try.f4) [1, 1, 1, 1, 1, 0, 1, 0, 0, 1, 0, 0, 1, 1, 1, 1, 1, 0, 0] []) ⟨mkT u 192 0 [(0, .vec 0 ao bs.length cap), (3, .ptr 1 b 0), (4, .int .i64 last), (5, .int .i64 i), (15, .vec 2 aA A.length cA), (16, .int .i64 k)], [⟨.sl ao cap, .roL 1 encU8 bs 0⟩, pkA b ptE s, ⟨.sl aA cA, .vecL 45 6 encP6 A PR.zero⟩]⟩) = (
match decide (k < (↑(List.length A) : Int)) with
| true =>
 (aA = aA ∧ cA = cA ∧ List.length A = List.length A ∧ (0 : Int) ≤ k ∧ k < (↑(List.length A) : Int)) ∧
  (Addr.blkD aA = Addr.blkD aA ∧ Addr.offD aA = Addr.offD aA ∧ 6 = 6 ∧ Int.toNat k < List.length A) ∧
   true = true ∧
    b = b ∧
     ∃ (h : PT = PT),
      AdtIs (fun (s : PT) (b : Nat) ↦ packs (ptE s b)) ptE ∧
       pOk s ∧
        ∀ (b_1 : Nat),
         (b_1 = b_1 ∧ true = true ∧ 6 = 6 ∧ 6 ≤ 6) ∧
          match !pHas s (List.getD A (Int.toNat k) (PR.mk (0 : Int) (0 : Int) (ByteArray.mk #[]) false (0 : Int) (ByteArray.mk #[]) false false)).2 with
          | true =>
           N
            [Ent.mk (Loc.sl ao cap) (SObj.roL 1 encU8 bs (0 : Int)), pkA b ptE s,
             Ent.mk (Loc.sl aA cA) (SObj.vecL (45 : TypeId) 6 encP6 A (PR.mk (0 : Int) (0 : Int) (ByteArray.mk #[]) false (0 : Int) (ByteArray.mk #[]) false false)),
             Ent.mk (Loc.blk b_1)
              (SObj.cells
               [SV.int IntKind.i64 (pGet s (List.getD A (Int.toNat k) (PR.mk (0 : Int) (0 : Int) (ByteArray.mk #[]) false (0 : Int) (ByteArray.mk #[]) false false)).2).1,
                SV.int IntKind.i64 (pGet s (List.getD A (Int.toNat k) (PR.mk (0 : Int) (0 : Int) (ByteArray.mk #[]) false (0 : Int) (ByteArray.mk #[]) false false)).2).2,
                SV.str (pGet s (List.getD A (Int.toNat k) (PR.mk (0 : Int) (0 : Int) (ByteArray.mk #[]) false (0 : Int) (ByteArray.mk #[]) false false)).2).3,
                SV.bool (pGet s (List.getD A (Int.toNat k) (PR.mk (0 : Int) (0 : Int) (ByteArray.mk #[]) false (0 : Int) (ByteArray.mk #[]) false false)).2).4,
                SV.int IntKind.i64 (pGet s (List.getD A (Int.toNat k) (PR.mk (0 : Int) (0 : Int) (ByteArray.mk #[]) false (0 : Int) (ByteArray.mk #[]) false false)).2).5,
                SV.str (pGet s (List.getD A (Int.toNat k) (PR.mk (0 : Int) (0 : Int) (ByteArray.mk #[]) false (0 : Int) (ByteArray.mk #[]) false false)).2).6]
               45)]
            (SV.bool false)
          | false =>
           b_1 = b_1 ∧
            match (pGet s (List.getD A (Int.toNat k) (PR.mk (0 : Int) (0 : Int) (ByteArray.mk #[]) false (0 : Int) (ByteArray.mk #[]) false false)).2).4 with
            | true =>
             N
              [Ent.mk (Loc.sl ao cap) (SObj.roL 1 encU8 bs (0 : Int)), pkA b ptE s,
               Ent.mk (Loc.sl aA cA) (SObj.vecL (45 : TypeId) 6 encP6 A (PR.mk (0 : Int) (0 : Int) (ByteArray.mk #[]) false (0 : Int) (ByteArray.mk #[]) false false)),
               Ent.mk (Loc.blk b_1)
                (SObj.cells
                 [SV.int IntKind.i64 (pGet s (List.getD A (Int.toNat k) (PR.mk (0 : Int) (0 : Int) (ByteArray.mk #[]) false (0 : Int) (ByteArray.mk #[]) false false)).2).1,
                  SV.int IntKind.i64 (pGet s (List.getD A (Int.toNat k) (PR.mk (0 : Int) (0 : Int) (ByteArray.mk #[]) false (0 : Int) (ByteArray.mk #[]) false false)).2).2,
                  SV.str (pGet s (List.getD A (Int.toNat k) (PR.mk (0 : Int) (0 : Int) (ByteArray.mk #[]) false (0 : Int) (ByteArray.mk #[]) false false)).2).3,
                  SV.bool (pGet s (List.getD A (Int.toNat k) (PR.mk (0 : Int) (0 : Int) (ByteArray.mk #[]) false (0 : Int) (ByteArray.mk #[]) false false)).2).4,
                  SV.int IntKind.i64 (pGet s (List.getD A (Int.toNat k) (PR.mk (0 : Int) (0 : Int) (ByteArray.mk #[]) false (0 : Int) (ByteArray.mk #[]) false false)).2).5,
                  SV.str (pGet s (List.getD A (Int.toNat k) (PR.mk (0 : Int) (0 : Int) (ByteArray.mk #[]) false (0 : Int) (ByteArray.mk #[]) false false)).2).6]
                 45)]
              (SV.bool false)
            | false =>
             (aA = aA ∧ cA = cA ∧ List.length A = List.length A ∧ (0 : Int) ≤ k ∧ k < (↑(List.length A) : Int)) ∧
              (Addr.blkD aA = Addr.blkD aA ∧ Addr.offD aA = Addr.offD aA ∧ 6 = 6 ∧ Int.toNat k < List.length A) ∧
               (aA = aA ∧
                cA = cA ∧
                 List.length A = List.length A ∧ (0 : Int) ≤ IntKind.wrap IntKind.i64 (k - (1 : Int)) ∧ IntKind.wrap IntKind.i64 (k - (1 : Int)) < (↑(List.length A) : Int)) ∧
                (Addr.blkD aA = Addr.blkD aA ∧ Addr.offD aA = Addr.offD aA ∧ 6 = 6 ∧ Int.toNat (IntKind.wrap IntKind.i64 (k - (1 : Int))) < List.length A) ∧
                 match
                  decide
                   ((List.getD A (Int.toNat k) (PR.mk (0 : Int) (0 : Int) (ByteArray.mk #[]) false (0 : Int) (ByteArray.mk #[]) false false)).1 ≤
                    (List.getD A (Int.toNat (IntKind.wrap IntKind.i64 (k - (1 : Int))))
                     (PR.mk (0 : Int) (0 : Int) (ByteArray.mk #[]) false (0 : Int) (ByteArray.mk #[]) false false)).1) with
                 | true =>
                  N
                   [Ent.mk (Loc.sl ao cap) (SObj.roL 1 encU8 bs (0 : Int)), pkA b ptE s,
                    Ent.mk (Loc.sl aA cA) (SObj.vecL (45 : TypeId) 6 encP6 A (PR.mk (0 : Int) (0 : Int) (ByteArray.mk #[]) false (0 : Int) (ByteArray.mk #[]) false false)),
                    Ent.mk (Loc.blk b_1)
                     (SObj.cells
                      [SV.int IntKind.i64 (pGet s (List.getD A (Int.toNat k) (PR.mk (0 : Int) (0 : Int) (ByteArray.mk #[]) false (0 : Int) (ByteArray.mk #[]) false false)).2).1,
                       SV.int IntKind.i64 (pGet s (List.getD A (Int.toNat k) (PR.mk (0 : Int) (0 : Int) (ByteArray.mk #[]) false (0 : Int) (ByteArray.mk #[]) false false)).2).2,
                       SV.str (pGet s (List.getD A (Int.toNat k) (PR.mk (0 : Int) (0 : Int) (ByteArray.mk #[]) false (0 : Int) (ByteArray.mk #[]) false false)).2).3,
                       SV.bool (pGet s (List.getD A (Int.toNat k) (PR.mk (0 : Int) (0 : Int) (ByteArray.mk #[]) false (0 : Int) (ByteArray.mk #[]) false false)).2).4,
                       SV.int IntKind.i64 (pGet s (List.getD A (Int.toNat k) (PR.mk (0 : Int) (0 : Int) (ByteArray.mk #[]) false (0 : Int) (ByteArray.mk #[]) false false)).2).5,
                       SV.str (pGet s (List.getD A (Int.toNat k) (PR.mk (0 : Int) (0 : Int) (ByteArray.mk #[]) false (0 : Int) (ByteArray.mk #[]) false false)).2).6]
                      45)]
                   (SV.bool false)
                 | false =>
                  (aA = aA ∧ cA = cA ∧ List.length A = List.length A ∧ (0 : Int) ≤ k ∧ k < (↑(List.length A) : Int)) ∧
                   (Addr.blkD aA = Addr.blkD aA ∧ Addr.offD aA = Addr.offD aA ∧ 6 = 6 ∧ Int.toNat k < List.length A) ∧
                    (aA = aA ∧ cA = cA ∧ List.length A = List.length A ∧ (0 : Int) ≤ k ∧ k < (↑(List.length A) : Int)) ∧
                     (Addr.blkD aA = Addr.blkD aA ∧ Addr.offD aA = Addr.offD aA ∧ 6 = 6 ∧ Int.toNat k < List.length A) ∧
                      match
                       decide
                        ((List.getD A (Int.toNat k) (PR.mk (0 : Int) (0 : Int) (ByteArray.mk #[]) false (0 : Int) (ByteArray.mk #[]) false false)).2 ≥
                         (List.getD A (Int.toNat k) (PR.mk (0 : Int) (0 : Int) (ByteArray.mk #[]) false (0 : Int) (ByteArray.mk #[]) false false)).1) with
                      | true =>
                       N
                        [Ent.mk (Loc.sl ao cap) (SObj.roL 1 encU8 bs (0 : Int)), pkA b ptE s,
                         Ent.mk (Loc.sl aA cA)
                          (SObj.vecL (45 : TypeId) 6 encP6 A (PR.mk (0 : Int) (0 : Int) (ByteArray.mk #[]) false (0 : Int) (ByteArray.mk #[]) false false)),
                         Ent.mk (Loc.blk b_1)
                          (SObj.cells
                           [SV.int IntKind.i64
                            (pGet s (List.getD A (Int.toNat k) (PR.mk (0 : Int) (0 : Int) (ByteArray.mk #[]) false (0 : Int) (ByteArray.mk #[]) false false)).2).1,
                            SV.int IntKind.i64
                             (pGet s (List.getD A (Int.toNat k) (PR.mk (0 : Int) (0 : Int) (ByteArray.mk #[]) false (0 : Int) (ByteArray.mk #[]) false false)).2).2,
                            SV.str (pGet s (List.getD A (Int.toNat k) (PR.mk (0 : Int) (0 : Int) (ByteArray.mk #[]) false (0 : Int) (ByteArray.mk #[]) false false)).2).3,
                            SV.bool (pGet s (List.getD A (Int.toNat k) (PR.mk (0 : Int) (0 : Int) (ByteArray.mk #[]) false (0 : Int) (ByteArray.mk #[]) false false)).2).4,
                            SV.int IntKind.i64
                             (pGet s (List.getD A (Int.toNat k) (PR.mk (0 : Int) (0 : Int) (ByteArray.mk #[]) false (0 : Int) (ByteArray.mk #[]) false false)).2).5,
                            SV.str (pGet s (List.getD A (Int.toNat k) (PR.mk (0 : Int) (0 : Int) (ByteArray.mk #[]) false (0 : Int) (ByteArray.mk #[]) false false)).2).6]
                           45)]
                        (SV.bool false)
                      | false =>
                       K (Frm.loop J1 :: Frm.blk 3 :: Frm.blk 1 :: frmR [J0] (bodyOf Try.f4) 9)
                        (Sy.mk
                         [SV.vec 0 ao (List.length bs) cap, SV.raw (u 1), SV.raw (u 2), SV.ptr 1 b 0, SV.int IntKind.i64 last,
                          SV.int IntKind.i64 i, SV.raw (u 6), SV.raw (u 7), SV.raw (u 8), SV.raw (u 9), SV.raw (u 10),
                          SV.raw (u 11), SV.raw (u 12), SV.raw (u 13), SV.raw (u 14), SV.vec 2 aA (List.length A) cA,
                          SV.int IntKind.i64 (IntKind.wrap IntKind.i64 (k + (1 : Int))), SV.ptr 3 b_1 0,
                          SV.bool (pHas s (List.getD A (Int.toNat k) (PR.mk (0 : Int) (0 : Int) (ByteArray.mk #[]) false (0 : Int) (ByteArray.mk #[]) false false)).2),
                          SV.raw (u 19), SV.raw (u 20), SV.raw (u 21), SV.raw (u 22), SV.raw (u 23), SV.raw (u 24),
                          SV.raw (u 25), SV.raw (u 26), SV.raw (u 27), SV.raw (u 28), SV.raw (u 29), SV.raw (u 30),
                          SV.raw (u 31), SV.raw (u 32), SV.raw (u 33), SV.raw (u 34), SV.raw (u 35), SV.raw (u 36),
                          SV.raw (u 37), SV.raw (u 38), SV.raw (u 39), SV.raw (u 40), SV.raw (u 41), SV.raw (u 42),
                          SV.raw (u 43), SV.raw (u 44), SV.raw (u 45), SV.raw (u 46), SV.raw (u 47), SV.raw (u 48),
                          SV.raw (u 49), SV.raw (u 50), SV.raw (u 51), SV.raw (u 52), SV.raw (u 53), SV.raw (u 54),
                          SV.raw (u 55), SV.raw (u 56), SV.raw (u 57), SV.raw (u 58), SV.raw (u 59), SV.raw (u 60),
                          SV.raw (u 61), SV.raw (u 62), SV.raw (u 63), SV.raw (u 64), SV.raw (u 65), SV.raw (u 66),
                          SV.raw (u 67), SV.raw (u 68), SV.raw (u 69), SV.raw (u 70), SV.raw (u 71), SV.raw (u 72),
                          SV.raw (u 73), SV.raw (u 74), SV.raw (u 75), SV.raw (u 76), SV.raw (u 77), SV.raw (u 78),
                          SV.raw (u 79), SV.raw (u 80), SV.raw (u 81), SV.raw (u 82), SV.raw (u 83), SV.raw (u 84),
                          SV.raw (u 85), SV.raw (u 86), SV.raw (u 87), SV.raw (u 88), SV.raw (u 89), SV.raw (u 90),
                          SV.raw (u 91), SV.raw (u 92), SV.raw (u 93), SV.raw (u 94), SV.raw (u 95), SV.raw (u 96),
                          SV.raw (u 97), SV.raw (u 98), SV.raw (u 99), SV.raw (u 100), SV.raw (u 101), SV.raw (u 102),
                          SV.raw (u 103), SV.raw (u 104), SV.raw (u 105), SV.raw (u 106), SV.raw (u 107), SV.raw (u 108),
                          SV.raw (u 109), SV.raw (u 110), SV.raw (u 111), SV.raw (u 112), SV.raw (u 113), SV.raw (u 114),
                          SV.raw (u 115), SV.raw (u 116), SV.raw (u 117), SV.raw (u 118), SV.raw (u 119), SV.raw (u 120),
                          SV.raw (u 121), SV.raw (u 122), SV.raw (u 123), SV.raw (u 124), SV.raw (u 125), SV.raw (u 126),
                          SV.raw (u 127), SV.raw (u 128), SV.raw (u 129), SV.raw (u 130), SV.raw (u 131), SV.raw (u 132),
                          SV.raw (u 133), SV.raw (u 134), SV.raw (u 135), SV.raw (u 136), SV.raw (u 137), SV.raw (u 138),
                          SV.raw (u 139), SV.raw (u 140), SV.raw (u 141), SV.raw (u 142), SV.int IntKind.i64 k,
                          SV.vec 2 aA (List.length A) cA, SV.int IntKind.i64 (↑(List.length A) : Int), SV.bool true, SV.int IntKind.i64 k,
                          SV.int IntKind.i64 (IntKind.wrap IntKind.i64 (k + (1 : Int))),
                          SV.tuple
                           [SV.agg
                            [SV.int IntKind.i64
                             (pGet s (List.getD A (Int.toNat k) (PR.mk (0 : Int) (0 : Int) (ByteArray.mk #[]) false (0 : Int) (ByteArray.mk #[]) false false)).2).1,
                             SV.int IntKind.i64
                              (pGet s (List.getD A (Int.toNat k) (PR.mk (0 : Int) (0 : Int) (ByteArray.mk #[]) false (0 : Int) (ByteArray.mk #[]) false false)).2).2,
                             SV.str
                              (pGet s (List.getD A (Int.toNat k) (PR.mk (0 : Int) (0 : Int) (ByteArray.mk #[]) false (0 : Int) (ByteArray.mk #[]) false false)).2).3,
                             SV.bool
                              (pGet s (List.getD A (Int.toNat k) (PR.mk (0 : Int) (0 : Int) (ByteArray.mk #[]) false (0 : Int) (ByteArray.mk #[]) false false)).2).4,
                             SV.int IntKind.i64
                              (pGet s (List.getD A (Int.toNat k) (PR.mk (0 : Int) (0 : Int) (ByteArray.mk #[]) false (0 : Int) (ByteArray.mk #[]) false false)).2).5,
                             SV.str
                              (pGet s (List.getD A (Int.toNat k) (PR.mk (0 : Int) (0 : Int) (ByteArray.mk #[]) false (0 : Int) (ByteArray.mk #[]) false false)).2).6],
                            SV.bool (pHas s (List.getD A (Int.toNat k) (PR.mk (0 : Int) (0 : Int) (ByteArray.mk #[]) false (0 : Int) (ByteArray.mk #[]) false false)).2)],
                          SV.ptr 1 b 0, SV.vec 2 aA (List.length A) cA, SV.int IntKind.i64 k,
                          SV.eptr 2 (Addr.blkD aA) (Addr.offD aA) 6 (Int.toNat k) 0,
                          SV.eptr 2 (Addr.blkD aA) (Addr.offD aA) 6 (Int.toNat k) 1,
                          SV.int IntKind.i64 (List.getD A (Int.toNat k) (PR.mk (0 : Int) (0 : Int) (ByteArray.mk #[]) false (0 : Int) (ByteArray.mk #[]) false false)).2,
                          SV.tuple
                           [SV.agg
                            [SV.int IntKind.i64
                             (pGet s (List.getD A (Int.toNat k) (PR.mk (0 : Int) (0 : Int) (ByteArray.mk #[]) false (0 : Int) (ByteArray.mk #[]) false false)).2).1,
                             SV.int IntKind.i64
                              (pGet s (List.getD A (Int.toNat k) (PR.mk (0 : Int) (0 : Int) (ByteArray.mk #[]) false (0 : Int) (ByteArray.mk #[]) false false)).2).2,
                             SV.str
                              (pGet s (List.getD A (Int.toNat k) (PR.mk (0 : Int) (0 : Int) (ByteArray.mk #[]) false (0 : Int) (ByteArray.mk #[]) false false)).2).3,
                             SV.bool
                              (pGet s (List.getD A (Int.toNat k) (PR.mk (0 : Int) (0 : Int) (ByteArray.mk #[]) false (0 : Int) (ByteArray.mk #[]) false false)).2).4,
                             SV.int IntKind.i64
                              (pGet s (List.getD A (Int.toNat k) (PR.mk (0 : Int) (0 : Int) (ByteArray.mk #[]) false (0 : Int) (ByteArray.mk #[]) false false)).2).5,
                             SV.str
                              (pGet s (List.getD A (Int.toNat k) (PR.mk (0 : Int) (0 : Int) (ByteArray.mk #[]) false (0 : Int) (ByteArray.mk #[]) false false)).2).6],
                            SV.bool (pHas s (List.getD A (Int.toNat k) (PR.mk (0 : Int) (0 : Int) (ByteArray.mk #[]) false (0 : Int) (ByteArray.mk #[]) false false)).2)],
                          SV.agg
                           [SV.int IntKind.i64
                            (pGet s (List.getD A (Int.toNat k) (PR.mk (0 : Int) (0 : Int) (ByteArray.mk #[]) false (0 : Int) (ByteArray.mk #[]) false false)).2).1,
                            SV.int IntKind.i64
                             (pGet s (List.getD A (Int.toNat k) (PR.mk (0 : Int) (0 : Int) (ByteArray.mk #[]) false (0 : Int) (ByteArray.mk #[]) false false)).2).2,
                            SV.str (pGet s (List.getD A (Int.toNat k) (PR.mk (0 : Int) (0 : Int) (ByteArray.mk #[]) false (0 : Int) (ByteArray.mk #[]) false false)).2).3,
                            SV.bool (pGet s (List.getD A (Int.toNat k) (PR.mk (0 : Int) (0 : Int) (ByteArray.mk #[]) false (0 : Int) (ByteArray.mk #[]) false false)).2).4,
                            SV.int IntKind.i64
                             (pGet s (List.getD A (Int.toNat k) (PR.mk (0 : Int) (0 : Int) (ByteArray.mk #[]) false (0 : Int) (ByteArray.mk #[]) false false)).2).5,
                            SV.str (pGet s (List.getD A (Int.toNat k) (PR.mk (0 : Int) (0 : Int) (ByteArray.mk #[]) false (0 : Int) (ByteArray.mk #[]) false false)).2).6],
                          SV.bool (pHas s (List.getD A (Int.toNat k) (PR.mk (0 : Int) (0 : Int) (ByteArray.mk #[]) false (0 : Int) (ByteArray.mk #[]) false false)).2),
                          SV.bool (pHas s (List.getD A (Int.toNat k) (PR.mk (0 : Int) (0 : Int) (ByteArray.mk #[]) false (0 : Int) (ByteArray.mk #[]) false false)).2),
                          SV.bool !pHas s (List.getD A (Int.toNat k) (PR.mk (0 : Int) (0 : Int) (ByteArray.mk #[]) false (0 : Int) (ByteArray.mk #[]) false false)).2,
                          SV.bool false, SV.ptr 3 b_1 3,
                          SV.bool (pGet s (List.getD A (Int.toNat k) (PR.mk (0 : Int) (0 : Int) (ByteArray.mk #[]) false (0 : Int) (ByteArray.mk #[]) false false)).2).4,
                          SV.bool (pGet s (List.getD A (Int.toNat k) (PR.mk (0 : Int) (0 : Int) (ByteArray.mk #[]) false (0 : Int) (ByteArray.mk #[]) false false)).2).4,
                          SV.bool false, SV.vec 2 aA (List.length A) cA, SV.int IntKind.i64 k,
                          SV.eptr 2 (Addr.blkD aA) (Addr.offD aA) 6 (Int.toNat k) 0,
                          SV.eptr 2 (Addr.blkD aA) (Addr.offD aA) 6 (Int.toNat k) 0,
                          SV.int IntKind.i64 (List.getD A (Int.toNat k) (PR.mk (0 : Int) (0 : Int) (ByteArray.mk #[]) false (0 : Int) (ByteArray.mk #[]) false false)).1,
                          SV.vec 2 aA (List.length A) cA, SV.int IntKind.i64 k, SV.int IntKind.i64 (IntKind.wrap IntKind.i64 (k - (1 : Int))),
                          SV.eptr 2 (Addr.blkD aA) (Addr.offD aA) 6 (Int.toNat (IntKind.wrap IntKind.i64 (k - (1 : Int)))) 0,
                          SV.eptr 2 (Addr.blkD aA) (Addr.offD aA) 6 (Int.toNat (IntKind.wrap IntKind.i64 (k - (1 : Int)))) 0,
                          SV.int IntKind.i64
                           (List.getD A (Int.toNat (IntKind.wrap IntKind.i64 (k - (1 : Int))))
                            (PR.mk (0 : Int) (0 : Int) (ByteArray.mk #[]) false (0 : Int) (ByteArray.mk #[]) false false)).1,
                          SV.bool
                           (decide
                            ((List.getD A (Int.toNat k) (PR.mk (0 : Int) (0 : Int) (ByteArray.mk #[]) false (0 : Int) (ByteArray.mk #[]) false false)).1 ≤
                             (List.getD A (Int.toNat (IntKind.wrap IntKind.i64 (k - (1 : Int))))
                              (PR.mk (0 : Int) (0 : Int) (ByteArray.mk #[]) false (0 : Int) (ByteArray.mk #[]) false false)).1)),
                          SV.bool
                           (decide
                            ((List.getD A (Int.toNat k) (PR.mk (0 : Int) (0 : Int) (ByteArray.mk #[]) false (0 : Int) (ByteArray.mk #[]) false false)).1 ≤
                             (List.getD A (Int.toNat (IntKind.wrap IntKind.i64 (k - (1 : Int))))
                              (PR.mk (0 : Int) (0 : Int) (ByteArray.mk #[]) false (0 : Int) (ByteArray.mk #[]) false false)).1)),
                          SV.bool false, SV.vec 2 aA (List.length A) cA, SV.int IntKind.i64 k,
                          SV.eptr 2 (Addr.blkD aA) (Addr.offD aA) 6 (Int.toNat k) 0,
                          SV.eptr 2 (Addr.blkD aA) (Addr.offD aA) 6 (Int.toNat k) 1,
                          SV.int IntKind.i64 (List.getD A (Int.toNat k) (PR.mk (0 : Int) (0 : Int) (ByteArray.mk #[]) false (0 : Int) (ByteArray.mk #[]) false false)).2,
                          SV.vec 2 aA (List.length A) cA, SV.int IntKind.i64 k, SV.eptr 2 (Addr.blkD aA) (Addr.offD aA) 6 (Int.toNat k) 0,
                          SV.eptr 2 (Addr.blkD aA) (Addr.offD aA) 6 (Int.toNat k) 0,
                          SV.int IntKind.i64 (List.getD A (Int.toNat k) (PR.mk (0 : Int) (0 : Int) (ByteArray.mk #[]) false (0 : Int) (ByteArray.mk #[]) false false)).1,
                          SV.bool
                           (decide
                            ((List.getD A (Int.toNat k) (PR.mk (0 : Int) (0 : Int) (ByteArray.mk #[]) false (0 : Int) (ByteArray.mk #[]) false false)).2 ≥
                             (List.getD A (Int.toNat k) (PR.mk (0 : Int) (0 : Int) (ByteArray.mk #[]) false (0 : Int) (ByteArray.mk #[]) false false)).1)),
                          SV.bool false]
                         [Ent.mk (Loc.sl ao cap) (SObj.roL 1 encU8 bs (0 : Int)), pkA b ptE s,
                          Ent.mk (Loc.sl aA cA)
                           (SObj.vecL (45 : TypeId) 6 encP6 A (PR.mk (0 : Int) (0 : Int) (ByteArray.mk #[]) false (0 : Int) (ByteArray.mk #[]) false false)),
                          Ent.mk (Loc.blk b_1)
                           (SObj.cells
                            [SV.int IntKind.i64
                             (pGet s (List.getD A (Int.toNat k) (PR.mk (0 : Int) (0 : Int) (ByteArray.mk #[]) false (0 : Int) (ByteArray.mk #[]) false false)).2).1,
                             SV.int IntKind.i64
                              (pGet s (List.getD A (Int.toNat k) (PR.mk (0 : Int) (0 : Int) (ByteArray.mk #[]) false (0 : Int) (ByteArray.mk #[]) false false)).2).2,
                             SV.str (pGet s (List.getD A (Int.toNat k) (PR.mk (0 : Int) (0 : Int) (ByteArray.mk #[]) false (0 : Int) (ByteArray.mk #[]) false false)).2).3,
                             SV.bool
                              (pGet s (List.getD A (Int.toNat k) (PR.mk (0 : Int) (0 : Int) (ByteArray.mk #[]) false (0 : Int) (ByteArray.mk #[]) false false)).2).4,
                             SV.int IntKind.i64
                              (pGet s (List.getD A (Int.toNat k) (PR.mk (0 : Int) (0 : Int) (ByteArray.mk #[]) false (0 : Int) (ByteArray.mk #[]) false false)).2).5,
                             SV.str (pGet s (List.getD A (Int.toNat k) (PR.mk (0 : Int) (0 : Int) (ByteArray.mk #[]) false (0 : Int) (ByteArray.mk #[]) false false)).2).6]
                            45)])
| false =>
 K (Frm.loop J0 :: Frm.blk 0 :: frm [] (bodyOf Try.f4) [1, 1, 1, 1, 1, 1] [])
  (Sy.mk
   [SV.vec 0 ao (List.length bs) cap, SV.raw (u 1), SV.raw (u 2), SV.ptr 1 b 0, SV.int IntKind.i64 last,
    SV.int IntKind.i64 (IntKind.wrap IntKind.i64 (i + (1 : Int))), SV.raw (u 6), SV.raw (u 7), SV.raw (u 8), SV.raw (u 9), SV.raw (u 10),
    SV.raw (u 11), SV.raw (u 12), SV.raw (u 13), SV.raw (u 14), SV.vec 2 aA (List.length A) cA, SV.int IntKind.i64 k, SV.raw (u 17),
    SV.raw (u 18), SV.raw (u 19), SV.raw (u 20), SV.raw (u 21), SV.raw (u 22), SV.raw (u 23), SV.raw (u 24), SV.raw (u 25),
    SV.raw (u 26), SV.raw (u 27), SV.raw (u 28), SV.int IntKind.i64 i, SV.int IntKind.i64 (IntKind.wrap IntKind.i64 (i + (1 : Int))), SV.raw (u 31),
    SV.raw (u 32), SV.raw (u 33), SV.raw (u 34), SV.raw (u 35), SV.raw (u 36), SV.raw (u 37), SV.raw (u 38), SV.raw (u 39),
    SV.raw (u 40), SV.raw (u 41), SV.raw (u 42), SV.raw (u 43), SV.raw (u 44), SV.raw (u 45), SV.raw (u 46), SV.raw (u 47),
    SV.raw (u 48), SV.raw (u 49), SV.raw (u 50), SV.raw (u 51), SV.raw (u 52), SV.raw (u 53), SV.raw (u 54), SV.raw (u 55),
    SV.raw (u 56), SV.raw (u 57), SV.raw (u 58), SV.raw (u 59), SV.raw (u 60), SV.raw (u 61), SV.raw (u 62), SV.raw (u 63),
    SV.raw (u 64), SV.raw (u 65), SV.raw (u 66), SV.raw (u 67), SV.raw (u 68), SV.raw (u 69), SV.raw (u 70), SV.raw (u 71),
    SV.raw (u 72), SV.raw (u 73), SV.raw (u 74), SV.raw (u 75), SV.raw (u 76), SV.raw (u 77), SV.raw (u 78), SV.raw (u 79),
    SV.raw (u 80), SV.raw (u 81), SV.raw (u 82), SV.raw (u 83), SV.raw (u 84), SV.raw (u 85), SV.raw (u 86), SV.raw (u 87),
    SV.raw (u 88), SV.raw (u 89), SV.raw (u 90), SV.raw (u 91), SV.raw (u 92), SV.raw (u 93), SV.raw (u 94), SV.raw (u 95),
    SV.raw (u 96), SV.raw (u 97), SV.raw (u 98), SV.raw (u 99), SV.raw (u 100), SV.raw (u 101), SV.raw (u 102), SV.raw (u 103),
    SV.raw (u 104), SV.raw (u 105), SV.raw (u 106), SV.raw (u 107), SV.raw (u 108), SV.raw (u 109), SV.raw (u 110), SV.raw (u 111),
    SV.raw (u 112), SV.raw (u 113), SV.raw (u 114), SV.raw (u 115), SV.raw (u 116), SV.raw (u 117), SV.raw (u 118), SV.raw (u 119),
    SV.raw (u 120), SV.raw (u 121), SV.raw (u 122), SV.raw (u 123), SV.raw (u 124), SV.raw (u 125), SV.raw (u 126), SV.raw (u 127),
    SV.raw (u 128), SV.raw (u 129), SV.raw (u 130), SV.raw (u 131), SV.raw (u 132), SV.raw (u 133), SV.raw (u 134), SV.raw (u 135),
    SV.raw (u 136), SV.raw (u 137), SV.raw (u 138), SV.raw (u 139), SV.raw (u 140), SV.raw (u 141), SV.raw (u 142), SV.int IntKind.i64 k,
    SV.vec 2 aA (List.length A) cA, SV.int IntKind.i64 (↑(List.length A) : Int), SV.bool false, SV.raw (u 147), SV.raw (u 148), SV.raw (u 149),
    SV.raw (u 150), SV.raw (u 151), SV.raw (u 152), SV.raw (u 153), SV.raw (u 154), SV.raw (u 155), SV.raw (u 156), SV.raw (u 157),
    SV.raw (u 158), SV.raw (u 159), SV.raw (u 160), SV.raw (u 161), SV.raw (u 162), SV.raw (u 163), SV.raw (u 164), SV.raw (u 165),
    SV.raw (u 166), SV.raw (u 167), SV.raw (u 168), SV.raw (u 169), SV.raw (u 170), SV.raw (u 171), SV.raw (u 172), SV.raw (u 173),
    SV.raw (u 174), SV.raw (u 175), SV.raw (u 176), SV.raw (u 177), SV.raw (u 178), SV.raw (u 179), SV.raw (u 180), SV.raw (u 181),
    SV.raw (u 182), SV.raw (u 183), SV.raw (u 184), SV.raw (u 185), SV.raw (u 186), SV.raw (u 187), SV.raw (u 188), SV.raw (u 189),
    SV.raw (u 190), SV.raw (u 191)]
   [Ent.mk (Loc.sl ao cap) (SObj.roL 1 encU8 bs (0 : Int)), pkA b ptE s,
    Ent.mk (Loc.sl aA cA) (SObj.vecL (45 : TypeId) 6 encP6 A (PR.mk (0 : Int) (0 : Int) (ByteArray.mk #[]) false (0 : Int) (ByteArray.mk #[]) false false))])) := by kernel_rfl
end Go.Proofs.Ytihajdkipkfiiaa
