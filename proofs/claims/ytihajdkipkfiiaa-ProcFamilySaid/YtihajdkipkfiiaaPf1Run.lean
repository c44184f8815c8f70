import Derived.Test.YtihajdkipkfiiaaPrcT
import Derived.Test.YtihajdkipkfiiaaTab
namespace Go.Proofs.Ytihajdkipkfiiaa
set_option linter.unusedVariables false
open Go Go.RowKit
set_option maxHeartbeats 0
set_option maxRecDepth 100000
set_option maxRecDepth 100000

theorem pf_start (K : List Frm → Sy → Prop) (N : List Ent → SV → Prop) (a0 a1 : Int) (e : Bool) : (run Try.prog ptTk false [] K (retP Try.prog Try.f6.results.toList N) 1500 [.code (bodyOf Try.f6)] ⟨padTo 152 [.int .u8 a0, .int .u8 a1, .bool e], []⟩) = (
true = true ∧
 (6 : Int) ≠ (0 : Int) ∧
  (6 : Int) ≠ (0 : Int) ∧
   true = true ∧
    ∀ (b bm bp : Nat),
     true = true ∧
      b = b ∧
       ∃ (h : PT = PT),
        AdtIs (fun (s : PT) (b : Nat) ↦ packs (ptE s b)) ptE ∧
         pOk (PT.mk bm [(bp, PR.mk (1 : Int) (0 : Int) (ByteArray.mk #[]) false (0 : Int) (ByteArray.mk #[]) false false)] (60 : Int) (1 : Int)) ∧
          ∀ (nb : Nat),
           K (frm [] (bodyOf Try.f6) [1, 1, 1, 1, 1, 1, 1, 0, 1, 0] [])
            (Sy.mk
             [SV.int IntKind.u8 a0, SV.int IntKind.u8 a1, SV.bool e, SV.raw (Value.tuple #[]), SV.raw (Value.tuple #[]), SV.raw (Value.tuple #[]), SV.bool false,
              SV.int IntKind.i64 (IntKind.wrap IntKind.i64 (Int.tmod a0 (6 : Int))), SV.int IntKind.i64 (IntKind.wrap IntKind.i64 (Int.tmod a1 (6 : Int))), SV.ptr 0 b 0,
              SV.int IntKind.i64
               (pSpawn (PT.mk bm [(bp, PR.mk (1 : Int) (0 : Int) (ByteArray.mk #[]) false (0 : Int) (ByteArray.mk #[]) false false)] (60 : Int) (1 : Int)) (1 : Int)
                (ByteArray.mk #[(103 : UInt8)]) (ByteArray.mk #[(99 : UInt8)]) nb).2.1,
              SV.int IntKind.i64
               (pSpawn (PT.mk bm [(bp, PR.mk (1 : Int) (0 : Int) (ByteArray.mk #[]) false (0 : Int) (ByteArray.mk #[]) false false)] (60 : Int) (1 : Int)) (1 : Int)
                (ByteArray.mk #[(103 : UInt8)]) (ByteArray.mk #[(99 : UInt8)]) nb).2.2,
              SV.raw (Value.slice (@none Addr) 0 0), SV.int IntKind.i64 (0 : Int), SV.raw (Value.tuple #[]), SV.raw (Value.tuple #[]), SV.raw (Value.tuple #[]),
              SV.raw (Value.tuple #[]), SV.raw (Value.tuple #[]), SV.raw (Value.tuple #[]), SV.raw (Value.tuple #[]), SV.raw (Value.tuple #[]), SV.raw (Value.tuple #[]),
              SV.raw (Value.tuple #[]), SV.bool true, SV.bool false, SV.int IntKind.u8 a0, SV.int IntKind.u8 (Int.tmod a0 (6 : Int)),
              SV.int IntKind.i64 (IntKind.wrap IntKind.i64 (Int.tmod a0 (6 : Int))), SV.int IntKind.u8 a1, SV.int IntKind.u8 (Int.tmod a1 (6 : Int)),
              SV.int IntKind.i64 (IntKind.wrap IntKind.i64 (Int.tmod a1 (6 : Int))), SV.ptr 0 b 0,
              SV.tuple
               [SV.int IntKind.i64
                (pSpawn (PT.mk bm [(bp, PR.mk (1 : Int) (0 : Int) (ByteArray.mk #[]) false (0 : Int) (ByteArray.mk #[]) false false)] (60 : Int) (1 : Int)) (1 : Int)
                 (ByteArray.mk #[(103 : UInt8)]) (ByteArray.mk #[(99 : UInt8)]) nb).2.1,
                SV.int IntKind.i64
                 (pSpawn (PT.mk bm [(bp, PR.mk (1 : Int) (0 : Int) (ByteArray.mk #[]) false (0 : Int) (ByteArray.mk #[]) false false)] (60 : Int) (1 : Int)) (1 : Int)
                  (ByteArray.mk #[(103 : UInt8)]) (ByteArray.mk #[(99 : UInt8)]) nb).2.2],
              SV.ptr 0 b 0,
              SV.tuple
               [SV.int IntKind.i64
                (pSpawn (PT.mk bm [(bp, PR.mk (1 : Int) (0 : Int) (ByteArray.mk #[]) false (0 : Int) (ByteArray.mk #[]) false false)] (60 : Int) (1 : Int)) (1 : Int)
                 (ByteArray.mk #[(103 : UInt8)]) (ByteArray.mk #[(99 : UInt8)]) nb).2.1,
                SV.int IntKind.i64
                 (pSpawn (PT.mk bm [(bp, PR.mk (1 : Int) (0 : Int) (ByteArray.mk #[]) false (0 : Int) (ByteArray.mk #[]) false false)] (60 : Int) (1 : Int)) (1 : Int)
                  (ByteArray.mk #[(103 : UInt8)]) (ByteArray.mk #[(99 : UInt8)]) nb).2.2],
              SV.int IntKind.i64
               (pSpawn (PT.mk bm [(bp, PR.mk (1 : Int) (0 : Int) (ByteArray.mk #[]) false (0 : Int) (ByteArray.mk #[]) false false)] (60 : Int) (1 : Int)) (1 : Int)
                (ByteArray.mk #[(103 : UInt8)]) (ByteArray.mk #[(99 : UInt8)]) nb).2.1,
              SV.int IntKind.i64
               (pSpawn (PT.mk bm [(bp, PR.mk (1 : Int) (0 : Int) (ByteArray.mk #[]) false (0 : Int) (ByteArray.mk #[]) false false)] (60 : Int) (1 : Int)) (1 : Int)
                (ByteArray.mk #[(103 : UInt8)]) (ByteArray.mk #[(99 : UInt8)]) nb).2.2,
              SV.int IntKind.i64
               (pSpawn (PT.mk bm [(bp, PR.mk (1 : Int) (0 : Int) (ByteArray.mk #[]) false (0 : Int) (ByteArray.mk #[]) false false)] (60 : Int) (1 : Int)) (1 : Int)
                (ByteArray.mk #[(103 : UInt8)]) (ByteArray.mk #[(99 : UInt8)]) nb).2.2,
              SV.bool false, SV.raw (Value.tuple #[]), SV.raw (Value.tuple #[]), SV.raw (Value.tuple #[]), SV.raw (Value.tuple #[]), SV.raw (Value.tuple #[]), SV.raw (Value.tuple #[]),
              SV.raw (Value.tuple #[]), SV.raw (Value.tuple #[]), SV.raw (Value.tuple #[]), SV.raw (Value.tuple #[]), SV.raw (Value.tuple #[]), SV.raw (Value.tuple #[]),
              SV.raw (Value.tuple #[]), SV.raw (Value.tuple #[]), SV.raw (Value.tuple #[]), SV.raw (Value.tuple #[]), SV.raw (Value.tuple #[]), SV.raw (Value.tuple #[]),
              SV.raw (Value.tuple #[]), SV.raw (Value.tuple #[]), SV.raw (Value.tuple #[]), SV.raw (Value.tuple #[]), SV.raw (Value.tuple #[]), SV.raw (Value.tuple #[]),
              SV.raw (Value.tuple #[]), SV.raw (Value.tuple #[]), SV.raw (Value.tuple #[]), SV.raw (Value.tuple #[]), SV.raw (Value.tuple #[]), SV.raw (Value.tuple #[]),
              SV.raw (Value.tuple #[]), SV.raw (Value.tuple #[]), SV.raw (Value.tuple #[]), SV.raw (Value.tuple #[]), SV.raw (Value.tuple #[]), SV.raw (Value.tuple #[]),
              SV.raw (Value.tuple #[]), SV.raw (Value.tuple #[]), SV.raw (Value.tuple #[]), SV.raw (Value.tuple #[]), SV.raw (Value.tuple #[]), SV.raw (Value.tuple #[]),
              SV.raw (Value.tuple #[]), SV.raw (Value.tuple #[]), SV.raw (Value.tuple #[]), SV.raw (Value.tuple #[]), SV.raw (Value.tuple #[]), SV.raw (Value.tuple #[]),
              SV.raw (Value.tuple #[]), SV.raw (Value.tuple #[]), SV.raw (Value.tuple #[]), SV.raw (Value.tuple #[]), SV.raw (Value.tuple #[]), SV.raw (Value.tuple #[]),
              SV.raw (Value.tuple #[]), SV.raw (Value.tuple #[]), SV.raw (Value.tuple #[]), SV.raw (Value.tuple #[]), SV.raw (Value.tuple #[]), SV.raw (Value.tuple #[]),
              SV.raw (Value.tuple #[]), SV.raw (Value.tuple #[]), SV.raw (Value.tuple #[]), SV.raw (Value.tuple #[]), SV.raw (Value.tuple #[]), SV.raw (Value.tuple #[]),
              SV.raw (Value.tuple #[]), SV.raw (Value.tuple #[]), SV.raw (Value.tuple #[]), SV.raw (Value.tuple #[]), SV.raw (Value.tuple #[]), SV.raw (Value.tuple #[]),
              SV.raw (Value.tuple #[]), SV.raw (Value.tuple #[]), SV.raw (Value.tuple #[]), SV.raw (Value.tuple #[]), SV.raw (Value.tuple #[]), SV.raw (Value.tuple #[]),
              SV.raw (Value.tuple #[]), SV.raw (Value.tuple #[]), SV.raw (Value.tuple #[]), SV.raw (Value.tuple #[]), SV.raw (Value.tuple #[]), SV.raw (Value.tuple #[]),
              SV.raw (Value.tuple #[]), SV.raw (Value.tuple #[]), SV.raw (Value.tuple #[]), SV.raw (Value.tuple #[]), SV.raw (Value.tuple #[]), SV.raw (Value.tuple #[]),
              SV.raw (Value.tuple #[]), SV.raw (Value.tuple #[]), SV.raw (Value.tuple #[]), SV.raw (Value.tuple #[]), SV.raw (Value.tuple #[]), SV.raw (Value.tuple #[]),
              SV.raw (Value.tuple #[]), SV.raw (Value.tuple #[]), SV.raw (Value.tuple #[]), SV.raw (Value.tuple #[]), SV.raw (Value.tuple #[]), SV.raw (Value.tuple #[]),
              SV.raw (Value.tuple #[]), SV.raw (Value.tuple #[]), SV.raw (Value.tuple #[]), SV.raw (Value.tuple #[]), SV.raw (Value.tuple #[]), SV.raw (Value.tuple #[]),
              SV.raw (Value.tuple #[]), SV.raw (Value.tuple #[]), SV.raw (Value.tuple #[]), SV.raw (Value.tuple #[])]
             [pkA b ptE
              (pSpawn (PT.mk bm [(bp, PR.mk (1 : Int) (0 : Int) (ByteArray.mk #[]) false (0 : Int) (ByteArray.mk #[]) false false)] (60 : Int) (1 : Int)) (1 : Int)
               (ByteArray.mk #[(103 : UInt8)]) (ByteArray.mk #[(99 : UInt8)]) nb).1])) := by kernel_rfl


theorem pf_l1 (K : List Frm → Sy → Prop) (N : List Ent → SV → Prop) (J : Act → World → Prop) (e : Bool) (a c : Int) (b : Nat) (s : PT) (ao : Option Addr) (cap : Nat) (ls : List Int) (i : Int) (u : Nat → Value) : (run Try.prog ptTk false [] K (retP Try.prog Try.f6.results.toList N) 1500 (frm [J] (bodyOf Try.f6) [1, 1, 1, 1, 1, 1, 1, 0, 1, 0, 0] []) ⟨mkT u 152 0 [(2, .bool e), (7, .int .i64 a), (8, .int .i64 c), (9, .ptr 0 b 0), (10, .int .i64 2), (12, .vec 1 ao ls.length cap), (13, .int .i64 i)], [pkA b ptE s, ⟨.sl ao cap, .vecL 3 1 encI1 ls 0⟩]⟩) = (
match decide (i < a) with
| true =>
 true = true ∧
  b = b ∧
   ∃ (h : PT = PT),
    AdtIs (fun (s : PT) (b : Nat) ↦ packs (ptE s b)) ptE ∧
     pOk s ∧
      ∀ (nb : Nat),
       match (pFork s (2 : Int) nb).2.2 != (0 : Int) with
       | true => N [pkA b ptE (pFork s (2 : Int) nb).1, Ent.mk (Loc.sl ao cap) (SObj.vecL (3 : TypeId) 1 encI1 ls (0 : Int))] (SV.bool false)
       | false =>
        (true = true ∧ 1 = 1 ∧ 0 < 1 ∧ 1 ≤ 16777216) ∧
         ∀ (b_1 : Nat),
          (ao = ao ∧
           cap = cap ∧
            List.length ls = List.length ls ∧
             some (Addr.mk b_1 0 (@none Nat)) = some (Addr.mk b_1 0 (@none Nat)) ∧
              (3 : TypeId) = 3 ∧
               1 = 1 ∧
                1 = 1 ∧
                 0 < 1 ∧
                  true = true ∧ (List.length ls + 1) * 8 ≤ 140737488355328 ∧ List.length ls + 1 ≤ 9223372036854775807) ∧
           ∃ (es : List Int),
            List.length es = 1 ∧
             List.flatMap encI1 es = [SV.int IntKind.i64 (pFork s (2 : Int) nb).2.1] ∧
              ∀ (ao2 : Option Addr) (cap2 : Nat),
               List.length ls + 1 ≤ cap2 →
                K
                 (frm [J] (bodyOf Try.f6)
                  [1, 1, 1, 1, 1, 1, 1, 0, 1, 0, 0, 1, 0, 0,
                   1, 1, 1, 1, 0]
                  [])
                 (Sy.mk
                  [SV.raw (u 0), SV.raw (u 1), SV.bool e, SV.raw (u 3), SV.raw (u 4), SV.raw (u 5), SV.raw (u 6),
                   SV.int IntKind.i64 a, SV.int IntKind.i64 c, SV.ptr 0 b 0, SV.int IntKind.i64 (2 : Int), SV.raw (u 11),
                   SV.vec 1 ao2 (List.length ls + 1) cap2, SV.int IntKind.i64 i, SV.int IntKind.i64 (pFork s (2 : Int) nb).2.1,
                   SV.int IntKind.i64 (pFork s (2 : Int) nb).2.2, SV.int IntKind.i64 (0 : Int), SV.raw (u 17), SV.raw (u 18), SV.raw (u 19),
                   SV.raw (u 20), SV.raw (u 21), SV.raw (u 22), SV.raw (u 23), SV.raw (u 24), SV.raw (u 25), SV.raw (u 26),
                   SV.raw (u 27), SV.raw (u 28), SV.raw (u 29), SV.raw (u 30), SV.raw (u 31), SV.raw (u 32), SV.raw (u 33),
                   SV.raw (u 34), SV.raw (u 35), SV.raw (u 36), SV.raw (u 37), SV.raw (u 38), SV.raw (u 39), SV.int IntKind.i64 i,
                   SV.int IntKind.i64 a, SV.bool true, SV.raw (u 43), SV.raw (u 44),
                   SV.tuple [SV.int IntKind.i64 (pFork s (2 : Int) nb).2.1, SV.int IntKind.i64 (pFork s (2 : Int) nb).2.2], SV.ptr 0 b 0,
                   SV.int IntKind.i64 (2 : Int), SV.tuple [SV.int IntKind.i64 (pFork s (2 : Int) nb).2.1, SV.int IntKind.i64 (pFork s (2 : Int) nb).2.2],
                   SV.int IntKind.i64 (pFork s (2 : Int) nb).2.1, SV.int IntKind.i64 (pFork s (2 : Int) nb).2.2, SV.int IntKind.i64 (pFork s (2 : Int) nb).2.2, SV.bool false,
                   SV.vec 1 ao (List.length ls) cap, SV.int IntKind.i64 (pFork s (2 : Int) nb).2.1,
                   SV.vec 2 (some (Addr.mk b_1 0 (@none Nat))) 1 1, SV.vec 1 ao2 (List.length ls + 1) cap2, SV.raw (u 57),
                   SV.raw (u 58), SV.raw (u 59), SV.raw (u 60), SV.raw (u 61), SV.raw (u 62), SV.raw (u 63), SV.raw (u 64),
                   SV.raw (u 65), SV.raw (u 66), SV.raw (u 67), SV.raw (u 68), SV.raw (u 69), SV.raw (u 70), SV.raw (u 71),
                   SV.raw (u 72), SV.raw (u 73), SV.raw (u 74), SV.raw (u 75), SV.raw (u 76), SV.raw (u 77), SV.raw (u 78),
                   SV.raw (u 79), SV.raw (u 80), SV.raw (u 81), SV.raw (u 82), SV.raw (u 83), SV.raw (u 84), SV.raw (u 85),
                   SV.raw (u 86), SV.raw (u 87), SV.raw (u 88), SV.raw (u 89), SV.raw (u 90), SV.raw (u 91), SV.raw (u 92),
                   SV.raw (u 93), SV.raw (u 94), SV.raw (u 95), SV.raw (u 96), SV.raw (u 97), SV.raw (u 98), SV.raw (u 99),
                   SV.raw (u 100), SV.raw (u 101), SV.raw (u 102), SV.raw (u 103), SV.raw (u 104), SV.raw (u 105),
                   SV.raw (u 106), SV.raw (u 107), SV.raw (u 108), SV.raw (u 109), SV.raw (u 110), SV.raw (u 111),
                   SV.raw (u 112), SV.raw (u 113), SV.raw (u 114), SV.raw (u 115), SV.raw (u 116), SV.raw (u 117),
                   SV.raw (u 118), SV.raw (u 119), SV.raw (u 120), SV.raw (u 121), SV.raw (u 122), SV.raw (u 123),
                   SV.raw (u 124), SV.raw (u 125), SV.raw (u 126), SV.raw (u 127), SV.raw (u 128), SV.raw (u 129),
                   SV.raw (u 130), SV.raw (u 131), SV.raw (u 132), SV.raw (u 133), SV.raw (u 134), SV.raw (u 135),
                   SV.raw (u 136), SV.raw (u 137), SV.raw (u 138), SV.raw (u 139), SV.raw (u 140), SV.raw (u 141),
                   SV.raw (u 142), SV.raw (u 143), SV.raw (u 144), SV.raw (u 145), SV.raw (u 146), SV.raw (u 147),
                   SV.raw (u 148), SV.raw (u 149), SV.raw (u 150), SV.raw (u 151)]
                  [pkA b ptE (pFork s (2 : Int) nb).1, Ent.mk (Loc.sl ao2 cap2) (SObj.vecL (3 : TypeId) 1 encI1 (ls ++ es) (0 : Int)),
                   Ent.mk (Loc.blk b_1) (SObj.cells [SV.int IntKind.i64 (pFork s (2 : Int) nb).2.1] 3)])
| false =>
 match e with
 | true =>
  true = true ∧
   b = b ∧
    ∃ (h : PT = PT),
     AdtIs (fun (s : PT) (b : Nat) ↦ packs (ptE s b)) ptE ∧
      pOk s ∧
       match (pExit s (2 : Int) (0 : Int)).2 != (0 : Int) with
       | true => N [pkA b ptE (pExit s (2 : Int) (0 : Int)).1, Ent.mk (Loc.sl ao cap) (SObj.vecL (3 : TypeId) 1 encI1 ls (0 : Int))] (SV.bool false)
       | false =>
        true = true ∧
         b = b ∧
          ∃ (h : PT = PT),
           AdtIs (fun (s : PT) (b : Nat) ↦ packs (ptE s b)) ptE ∧
            (pOk (cast h (pExit s (2 : Int) (0 : Int)).1) ∧ List.length (pExit s (2 : Int) (0 : Int)).1.2 ≤ 200) ∧
             ∀ (ao_1 : Option Addr) (cap_1 : Nat),
              K
               (frm [] (bodyOf Try.f6)
                [1, 1, 1, 1, 1, 1, 1, 1, 1, 1, 1, 0, 1, 0] [])
               (Sy.mk
                [SV.raw (u 0), SV.raw (u 1), SV.bool e, SV.raw (u 3), SV.raw (u 4), SV.raw (u 5), SV.raw (u 6), SV.int IntKind.i64 a,
                 SV.int IntKind.i64 c, SV.ptr 0 b 0, SV.int IntKind.i64 (2 : Int), SV.raw (u 11), SV.vec 1 ao (List.length ls) cap,
                 SV.int IntKind.i64 i, SV.raw (u 14), SV.raw (u 15), SV.raw (u 16), SV.int IntKind.i64 (0 : Int),
                 SV.vec 2 ao_1 (List.length (upto (0 : Int) (List.map (fun (x : Nat × PR) ↦ x.snd) (pExit s (2 : Int) (0 : Int)).1.2))) cap_1, SV.int IntKind.i64 (0 : Int),
                 SV.raw (u 20), SV.raw (u 21), SV.raw (u 22), SV.raw (u 23), SV.raw (u 24), SV.raw (u 25), SV.raw (u 26),
                 SV.raw (u 27), SV.raw (u 28), SV.raw (u 29), SV.raw (u 30), SV.raw (u 31), SV.raw (u 32), SV.raw (u 33),
                 SV.raw (u 34), SV.raw (u 35), SV.raw (u 36), SV.raw (u 37), SV.raw (u 38), SV.raw (u 39), SV.int IntKind.i64 i,
                 SV.int IntKind.i64 a, SV.bool false, SV.raw (u 43), SV.raw (u 44), SV.raw (u 45), SV.raw (u 46), SV.raw (u 47),
                 SV.raw (u 48), SV.raw (u 49), SV.raw (u 50), SV.raw (u 51), SV.raw (u 52), SV.raw (u 53), SV.raw (u 54),
                 SV.raw (u 55), SV.raw (u 56), SV.raw (u 57), SV.raw (u 58), SV.raw (u 59), SV.raw (u 60), SV.raw (u 61),
                 SV.raw (u 62), SV.raw (u 63), SV.raw (u 64), SV.raw (u 65), SV.raw (u 66), SV.raw (u 67), SV.raw (u 68),
                 SV.raw (u 69), SV.bool e, SV.bool true, SV.ptr 0 b 0, SV.int IntKind.i64 (2 : Int), SV.int IntKind.i64 (pExit s (2 : Int) (0 : Int)).2,
                 SV.bool ((pExit s (2 : Int) (0 : Int)).2 != (0 : Int)), SV.bool false, SV.ptr 0 b 0,
                 SV.vec 2 ao_1 (List.length (upto (0 : Int) (List.map (fun (x : Nat × PR) ↦ x.snd) (pExit s (2 : Int) (0 : Int)).1.2))) cap_1, SV.raw (u 79),
                 SV.raw (u 80), SV.raw (u 81), SV.raw (u 82), SV.raw (u 83), SV.raw (u 84), SV.raw (u 85), SV.raw (u 86),
                 SV.raw (u 87), SV.raw (u 88), SV.raw (u 89), SV.raw (u 90), SV.raw (u 91), SV.raw (u 92), SV.raw (u 93),
                 SV.raw (u 94), SV.raw (u 95), SV.raw (u 96), SV.raw (u 97), SV.raw (u 98), SV.raw (u 99), SV.raw (u 100),
                 SV.raw (u 101), SV.raw (u 102), SV.raw (u 103), SV.raw (u 104), SV.raw (u 105), SV.raw (u 106),
                 SV.raw (u 107), SV.raw (u 108), SV.raw (u 109), SV.raw (u 110), SV.raw (u 111), SV.raw (u 112),
                 SV.raw (u 113), SV.raw (u 114), SV.raw (u 115), SV.raw (u 116), SV.raw (u 117), SV.raw (u 118),
                 SV.raw (u 119), SV.raw (u 120), SV.raw (u 121), SV.raw (u 122), SV.raw (u 123), SV.raw (u 124),
                 SV.raw (u 125), SV.raw (u 126), SV.raw (u 127), SV.raw (u 128), SV.raw (u 129), SV.raw (u 130),
                 SV.raw (u 131), SV.raw (u 132), SV.raw (u 133), SV.raw (u 134), SV.raw (u 135), SV.raw (u 136),
                 SV.raw (u 137), SV.raw (u 138), SV.raw (u 139), SV.raw (u 140), SV.raw (u 141), SV.raw (u 142),
                 SV.raw (u 143), SV.raw (u 144), SV.raw (u 145), SV.raw (u 146), SV.raw (u 147), SV.raw (u 148),
                 SV.raw (u 149), SV.raw (u 150), SV.raw (u 151)]
                [pkA b ptE (pExit s (2 : Int) (0 : Int)).1, Ent.mk (Loc.sl ao cap) (SObj.vecL (3 : TypeId) 1 encI1 ls (0 : Int)),
                 Ent.mk (Loc.sl ao_1 cap_1)
                  (SObj.vecL (45 : TypeId) 6 encP6 (upto (0 : Int) (List.map (fun (x : Nat × PR) ↦ x.snd) (pExit s (2 : Int) (0 : Int)).1.2))
                   (PR.mk (0 : Int) (0 : Int) (ByteArray.mk #[]) false (0 : Int) (ByteArray.mk #[]) false false))])
 | false =>
  true = true ∧
   b = b ∧
    ∃ (h : PT = PT),
     AdtIs (fun (s : PT) (b : Nat) ↦ packs (ptE s b)) ptE ∧
      (pOk (cast h s) ∧ List.length s.2 ≤ 200) ∧
       ∀ (ao_1 : Option Addr) (cap_1 : Nat),
        K (frm [] (bodyOf Try.f6) [1, 1, 1, 1, 1, 1, 1, 1, 1, 1, 1, 0, 1, 0] [])
         (Sy.mk
          [SV.raw (u 0), SV.raw (u 1), SV.bool e, SV.raw (u 3), SV.raw (u 4), SV.raw (u 5), SV.raw (u 6), SV.int IntKind.i64 a,
           SV.int IntKind.i64 c, SV.ptr 0 b 0, SV.int IntKind.i64 (2 : Int), SV.raw (u 11), SV.vec 1 ao (List.length ls) cap, SV.int IntKind.i64 i,
           SV.raw (u 14), SV.raw (u 15), SV.raw (u 16), SV.int IntKind.i64 (0 : Int),
           SV.vec 2 ao_1 (List.length (upto (0 : Int) (List.map (fun (x : Nat × PR) ↦ x.snd) s.2))) cap_1, SV.int IntKind.i64 (0 : Int), SV.raw (u 20),
           SV.raw (u 21), SV.raw (u 22), SV.raw (u 23), SV.raw (u 24), SV.raw (u 25), SV.raw (u 26), SV.raw (u 27),
           SV.raw (u 28), SV.raw (u 29), SV.raw (u 30), SV.raw (u 31), SV.raw (u 32), SV.raw (u 33), SV.raw (u 34),
           SV.raw (u 35), SV.raw (u 36), SV.raw (u 37), SV.raw (u 38), SV.raw (u 39), SV.int IntKind.i64 i, SV.int IntKind.i64 a, SV.bool false,
           SV.raw (u 43), SV.raw (u 44), SV.raw (u 45), SV.raw (u 46), SV.raw (u 47), SV.raw (u 48), SV.raw (u 49),
           SV.raw (u 50), SV.raw (u 51), SV.raw (u 52), SV.raw (u 53), SV.raw (u 54), SV.raw (u 55), SV.raw (u 56),
           SV.raw (u 57), SV.raw (u 58), SV.raw (u 59), SV.raw (u 60), SV.raw (u 61), SV.raw (u 62), SV.raw (u 63),
           SV.raw (u 64), SV.raw (u 65), SV.raw (u 66), SV.raw (u 67), SV.raw (u 68), SV.raw (u 69), SV.bool e, SV.bool false,
           SV.raw (Value.tuple #[]), SV.raw (Value.tuple #[]), SV.raw (Value.tuple #[]), SV.raw (Value.tuple #[]), SV.bool false, SV.ptr 0 b 0,
           SV.vec 2 ao_1 (List.length (upto (0 : Int) (List.map (fun (x : Nat × PR) ↦ x.snd) s.2))) cap_1, SV.raw (u 79), SV.raw (u 80), SV.raw (u 81),
           SV.raw (u 82), SV.raw (u 83), SV.raw (u 84), SV.raw (u 85), SV.raw (u 86), SV.raw (u 87), SV.raw (u 88),
           SV.raw (u 89), SV.raw (u 90), SV.raw (u 91), SV.raw (u 92), SV.raw (u 93), SV.raw (u 94), SV.raw (u 95),
           SV.raw (u 96), SV.raw (u 97), SV.raw (u 98), SV.raw (u 99), SV.raw (u 100), SV.raw (u 101), SV.raw (u 102),
           SV.raw (u 103), SV.raw (u 104), SV.raw (u 105), SV.raw (u 106), SV.raw (u 107), SV.raw (u 108), SV.raw (u 109),
           SV.raw (u 110), SV.raw (u 111), SV.raw (u 112), SV.raw (u 113), SV.raw (u 114), SV.raw (u 115), SV.raw (u 116),
           SV.raw (u 117), SV.raw (u 118), SV.raw (u 119), SV.raw (u 120), SV.raw (u 121), SV.raw (u 122), SV.raw (u 123),
           SV.raw (u 124), SV.raw (u 125), SV.raw (u 126), SV.raw (u 127), SV.raw (u 128), SV.raw (u 129), SV.raw (u 130),
           SV.raw (u 131), SV.raw (u 132), SV.raw (u 133), SV.raw (u 134), SV.raw (u 135), SV.raw (u 136), SV.raw (u 137),
           SV.raw (u 138), SV.raw (u 139), SV.raw (u 140), SV.raw (u 141), SV.raw (u 142), SV.raw (u 143), SV.raw (u 144),
           SV.raw (u 145), SV.raw (u 146), SV.raw (u 147), SV.raw (u 148), SV.raw (u 149), SV.raw (u 150), SV.raw (u 151)]
          [pkA b ptE s, Ent.mk (Loc.sl ao cap) (SObj.vecL (3 : TypeId) 1 encI1 ls (0 : Int)),
           Ent.mk (Loc.sl ao_1 cap_1)
            (SObj.vecL (45 : TypeId) 6 encP6 (upto (0 : Int) (List.map (fun (x : Nat × PR) ↦ x.snd) s.2))
             (PR.mk (0 : Int) (0 : Int) (ByteArray.mk #[]) false (0 : Int) (ByteArray.mk #[]) false false))])) := by kernel_rfl


theorem pf_l2 (K : List Frm → Sy → Prop) (N : List Ent → SV → Prop) (J0 J1 : Act → World → Prop) (e : Bool) (a c : Int) (b : Nat) (s : PT) (ao : Option Addr) (cap : Nat) (ls : List Int) (i k j : Int) (u : Nat → Value) : (run Try.prog ptTk false [] K (retP Try.prog Try.f6.results.toList N) 1500 (frm [J0, J1] (bodyOf Try.f6) [1, 1, 1, 1, 1, 1, 1, 0, 1, 0, 0, 1, 0, 0, 1, 1, 1, 1, 0, 0] []) ⟨mkT u 152 0 [(2, .bool e), (7, .int .i64 a), (8, .int .i64 c), (9, .ptr 0 b 0), (10, .int .i64 2), (12, .vec 1 ao ls.length cap), (13, .int .i64 i), (14, .int .i64 k), (16, .int .i64 j)], [pkA b ptE s, ⟨.sl ao cap, .vecL 3 1 encI1 ls 0⟩]⟩) = (
match decide (j < c) with
| true =>
 true = true ∧
  b = b ∧
   ∃ (h : PT = PT),
    AdtIs (fun (s : PT) (b : Nat) ↦ packs (ptE s b)) ptE ∧
     pOk s ∧
      ∀ (nb : Nat),
       match (pFork s k nb).2.2 != (0 : Int) with
       | true => N [pkA b ptE (pFork s k nb).1, Ent.mk (Loc.sl ao cap) (SObj.vecL (3 : TypeId) 1 encI1 ls (0 : Int))] (SV.bool false)
       | false =>
        K (Frm.loop J1 :: Frm.blk 2 :: Frm.blk 1 :: frmR [J0] (bodyOf Try.f6) 11)
         (Sy.mk
          [SV.raw (u 0), SV.raw (u 1), SV.bool e, SV.raw (u 3), SV.raw (u 4), SV.raw (u 5), SV.raw (u 6), SV.int IntKind.i64 a,
           SV.int IntKind.i64 c, SV.ptr 0 b 0, SV.int IntKind.i64 (2 : Int), SV.raw (u 11), SV.vec 1 ao (List.length ls) cap, SV.int IntKind.i64 i,
           SV.int IntKind.i64 k, SV.int IntKind.i64 (pFork s k nb).2.2, SV.int IntKind.i64 (IntKind.wrap IntKind.i64 (j + (1 : Int))), SV.raw (u 17), SV.raw (u 18),
           SV.raw (u 19), SV.raw (u 20), SV.raw (u 21), SV.raw (u 22), SV.raw (u 23), SV.raw (u 24), SV.raw (u 25),
           SV.raw (u 26), SV.raw (u 27), SV.raw (u 28), SV.raw (u 29), SV.raw (u 30), SV.raw (u 31), SV.raw (u 32),
           SV.raw (u 33), SV.raw (u 34), SV.raw (u 35), SV.raw (u 36), SV.raw (u 37), SV.raw (u 38), SV.raw (u 39),
           SV.raw (u 40), SV.raw (u 41), SV.raw (u 42), SV.raw (u 43), SV.raw (u 44), SV.raw (u 45), SV.raw (u 46),
           SV.raw (u 47), SV.raw (u 48), SV.raw (u 49), SV.raw (u 50), SV.raw (u 51), SV.raw (u 52), SV.raw (u 53),
           SV.raw (u 54), SV.raw (u 55), SV.raw (u 56), SV.int IntKind.i64 j, SV.int IntKind.i64 c, SV.bool true, SV.int IntKind.i64 j,
           SV.int IntKind.i64 (IntKind.wrap IntKind.i64 (j + (1 : Int))), SV.tuple [SV.int IntKind.i64 (pFork s k nb).2.1, SV.int IntKind.i64 (pFork s k nb).2.2],
           SV.ptr 0 b 0, SV.int IntKind.i64 k, SV.tuple [SV.int IntKind.i64 (pFork s k nb).2.1, SV.int IntKind.i64 (pFork s k nb).2.2],
           SV.int IntKind.i64 (pFork s k nb).2.1, SV.int IntKind.i64 (pFork s k nb).2.2, SV.int IntKind.i64 (pFork s k nb).2.2, SV.bool false, SV.raw (u 70), SV.raw (u 71),
           SV.raw (u 72), SV.raw (u 73), SV.raw (u 74), SV.raw (u 75), SV.raw (u 76), SV.raw (u 77), SV.raw (u 78),
           SV.raw (u 79), SV.raw (u 80), SV.raw (u 81), SV.raw (u 82), SV.raw (u 83), SV.raw (u 84), SV.raw (u 85),
           SV.raw (u 86), SV.raw (u 87), SV.raw (u 88), SV.raw (u 89), SV.raw (u 90), SV.raw (u 91), SV.raw (u 92),
           SV.raw (u 93), SV.raw (u 94), SV.raw (u 95), SV.raw (u 96), SV.raw (u 97), SV.raw (u 98), SV.raw (u 99),
           SV.raw (u 100), SV.raw (u 101), SV.raw (u 102), SV.raw (u 103), SV.raw (u 104), SV.raw (u 105), SV.raw (u 106),
           SV.raw (u 107), SV.raw (u 108), SV.raw (u 109), SV.raw (u 110), SV.raw (u 111), SV.raw (u 112), SV.raw (u 113),
           SV.raw (u 114), SV.raw (u 115), SV.raw (u 116), SV.raw (u 117), SV.raw (u 118), SV.raw (u 119), SV.raw (u 120),
           SV.raw (u 121), SV.raw (u 122), SV.raw (u 123), SV.raw (u 124), SV.raw (u 125), SV.raw (u 126), SV.raw (u 127),
           SV.raw (u 128), SV.raw (u 129), SV.raw (u 130), SV.raw (u 131), SV.raw (u 132), SV.raw (u 133), SV.raw (u 134),
           SV.raw (u 135), SV.raw (u 136), SV.raw (u 137), SV.raw (u 138), SV.raw (u 139), SV.raw (u 140), SV.raw (u 141),
           SV.raw (u 142), SV.raw (u 143), SV.raw (u 144), SV.raw (u 145), SV.raw (u 146), SV.raw (u 147), SV.raw (u 148),
           SV.raw (u 149), SV.raw (u 150), SV.raw (u 151)]
          [pkA b ptE (pFork s k nb).1, Ent.mk (Loc.sl ao cap) (SObj.vecL (3 : TypeId) 1 encI1 ls (0 : Int))])
| false =>
 K (Frm.loop J0 :: Frm.blk 0 :: frm [] (bodyOf Try.f6) [1, 1, 1, 1, 1, 1, 1, 1] [])
  (Sy.mk
   [SV.raw (u 0), SV.raw (u 1), SV.bool e, SV.raw (u 3), SV.raw (u 4), SV.raw (u 5), SV.raw (u 6), SV.int IntKind.i64 a, SV.int IntKind.i64 c,
    SV.ptr 0 b 0, SV.int IntKind.i64 (2 : Int), SV.raw (u 11), SV.vec 1 ao (List.length ls) cap, SV.int IntKind.i64 (IntKind.wrap IntKind.i64 (i + (1 : Int))),
    SV.int IntKind.i64 k, SV.raw (u 15), SV.int IntKind.i64 j, SV.raw (u 17), SV.raw (u 18), SV.raw (u 19), SV.raw (u 20), SV.raw (u 21),
    SV.raw (u 22), SV.raw (u 23), SV.raw (u 24), SV.raw (u 25), SV.raw (u 26), SV.raw (u 27), SV.raw (u 28), SV.raw (u 29),
    SV.raw (u 30), SV.raw (u 31), SV.raw (u 32), SV.raw (u 33), SV.raw (u 34), SV.raw (u 35), SV.raw (u 36), SV.raw (u 37),
    SV.raw (u 38), SV.raw (u 39), SV.raw (u 40), SV.raw (u 41), SV.raw (u 42), SV.int IntKind.i64 i,
    SV.int IntKind.i64 (IntKind.wrap IntKind.i64 (i + (1 : Int))), SV.raw (u 45), SV.raw (u 46), SV.raw (u 47), SV.raw (u 48), SV.raw (u 49),
    SV.raw (u 50), SV.raw (u 51), SV.raw (u 52), SV.raw (u 53), SV.raw (u 54), SV.raw (u 55), SV.raw (u 56), SV.int IntKind.i64 j,
    SV.int IntKind.i64 c, SV.bool false, SV.raw (u 60), SV.raw (u 61), SV.raw (u 62), SV.raw (u 63), SV.raw (u 64), SV.raw (u 65),
    SV.raw (u 66), SV.raw (u 67), SV.raw (u 68), SV.raw (u 69), SV.raw (u 70), SV.raw (u 71), SV.raw (u 72), SV.raw (u 73),
    SV.raw (u 74), SV.raw (u 75), SV.raw (u 76), SV.raw (u 77), SV.raw (u 78), SV.raw (u 79), SV.raw (u 80), SV.raw (u 81),
    SV.raw (u 82), SV.raw (u 83), SV.raw (u 84), SV.raw (u 85), SV.raw (u 86), SV.raw (u 87), SV.raw (u 88), SV.raw (u 89),
    SV.raw (u 90), SV.raw (u 91), SV.raw (u 92), SV.raw (u 93), SV.raw (u 94), SV.raw (u 95), SV.raw (u 96), SV.raw (u 97),
    SV.raw (u 98), SV.raw (u 99), SV.raw (u 100), SV.raw (u 101), SV.raw (u 102), SV.raw (u 103), SV.raw (u 104), SV.raw (u 105),
    SV.raw (u 106), SV.raw (u 107), SV.raw (u 108), SV.raw (u 109), SV.raw (u 110), SV.raw (u 111), SV.raw (u 112), SV.raw (u 113),
    SV.raw (u 114), SV.raw (u 115), SV.raw (u 116), SV.raw (u 117), SV.raw (u 118), SV.raw (u 119), SV.raw (u 120), SV.raw (u 121),
    SV.raw (u 122), SV.raw (u 123), SV.raw (u 124), SV.raw (u 125), SV.raw (u 126), SV.raw (u 127), SV.raw (u 128), SV.raw (u 129),
    SV.raw (u 130), SV.raw (u 131), SV.raw (u 132), SV.raw (u 133), SV.raw (u 134), SV.raw (u 135), SV.raw (u 136), SV.raw (u 137),
    SV.raw (u 138), SV.raw (u 139), SV.raw (u 140), SV.raw (u 141), SV.raw (u 142), SV.raw (u 143), SV.raw (u 144), SV.raw (u 145),
    SV.raw (u 146), SV.raw (u 147), SV.raw (u 148), SV.raw (u 149), SV.raw (u 150), SV.raw (u 151)]
   [pkA b ptE s, Ent.mk (Loc.sl ao cap) (SObj.vecL (3 : TypeId) 1 encI1 ls (0 : Int))])) := by kernel_rfl


theorem pf_l3 (K : List Frm → Sy → Prop) (N : List Ent → SV → Prop) (J : Act → World → Prop) (e : Bool) (a c : Int) (b : Nat) (s : PT) (ao : Option Addr) (cap : Nat) (ls : List Int) (aA : Option Addr) (cA : Nat) (A : List PR) (n i : Int) (u : Nat → Value) : (run Try.prog ptTk false [] K (retP Try.prog Try.f6.results.toList N) 1500 (frm [J] (bodyOf Try.f6) [1, 1, 1, 1, 1, 1, 1, 1, 1, 1, 1, 0, 1, 0, 0] []) ⟨mkT u 152 0 [(2, .bool e), (7, .int .i64 a), (8, .int .i64 c), (10, .int .i64 2), (12, .vec 1 ao ls.length cap), (17, .int .i64 n), (18, .vec 2 aA A.length cA), (19, .int .i64 i)], [pkA b ptE s, ⟨.sl ao cap, .vecL 3 1 encI1 ls 0⟩, ⟨.sl aA cA, .vecL 45 6 encP6 A PR.zero⟩]⟩) = (
match decide (i < (↑(List.length A) : Int)) with
| true =>
 (aA = aA ∧ cA = cA ∧ List.length A = List.length A ∧ (0 : Int) ≤ i ∧ i < (↑(List.length A) : Int)) ∧
  (Addr.blkD aA = Addr.blkD aA ∧ Addr.offD aA = Addr.offD aA ∧ 6 = 6 ∧ Int.toNat i < List.length A ∧ 6 = 6) ∧
   ∀ (b_1 : Nat),
    (b_1 = b_1 ∧ true = true ∧ 6 = 6 ∧ 6 ≤ 6) ∧
     b_1 = b_1 ∧
      match decide ((List.getD A (Int.toNat i) (PR.mk (0 : Int) (0 : Int) (ByteArray.mk #[]) false (0 : Int) (ByteArray.mk #[]) false false)).1 ≤ (2 : Int)) with
      | true =>
       K
        (Frm.loop J ::
         Frm.blk 4 :: frm [] (bodyOf Try.f6) [1, 1, 1, 1, 1, 1, 1, 1, 1, 1, 1, 1] [])
        (Sy.mk
         [SV.raw (u 0), SV.raw (u 1), SV.bool e, SV.raw (u 3), SV.raw (u 4), SV.raw (u 5), SV.raw (u 6), SV.int IntKind.i64 a,
          SV.int IntKind.i64 c, SV.raw (u 9), SV.int IntKind.i64 (2 : Int), SV.raw (u 11), SV.vec 1 ao (List.length ls) cap, SV.raw (u 13),
          SV.raw (u 14), SV.raw (u 15), SV.raw (u 16), SV.int IntKind.i64 n, SV.vec 2 aA (List.length A) cA,
          SV.int IntKind.i64 (IntKind.wrap IntKind.i64 (i + (1 : Int))), SV.ptr 3 b_1 0, SV.raw (u 21), SV.raw (u 22), SV.raw (u 23),
          SV.raw (u 24), SV.raw (u 25), SV.raw (u 26), SV.raw (u 27), SV.raw (u 28), SV.raw (u 29), SV.raw (u 30),
          SV.raw (u 31), SV.raw (u 32), SV.raw (u 33), SV.raw (u 34), SV.raw (u 35), SV.raw (u 36), SV.raw (u 37),
          SV.raw (u 38), SV.raw (u 39), SV.raw (u 40), SV.raw (u 41), SV.raw (u 42), SV.raw (u 43), SV.raw (u 44),
          SV.raw (u 45), SV.raw (u 46), SV.raw (u 47), SV.raw (u 48), SV.raw (u 49), SV.raw (u 50), SV.raw (u 51),
          SV.raw (u 52), SV.raw (u 53), SV.raw (u 54), SV.raw (u 55), SV.raw (u 56), SV.raw (u 57), SV.raw (u 58),
          SV.raw (u 59), SV.raw (u 60), SV.raw (u 61), SV.raw (u 62), SV.raw (u 63), SV.raw (u 64), SV.raw (u 65),
          SV.raw (u 66), SV.raw (u 67), SV.raw (u 68), SV.raw (u 69), SV.raw (u 70), SV.raw (u 71), SV.raw (u 72),
          SV.raw (u 73), SV.raw (u 74), SV.raw (u 75), SV.raw (u 76), SV.raw (u 77), SV.raw (u 78), SV.int IntKind.i64 i,
          SV.vec 2 aA (List.length A) cA, SV.int IntKind.i64 (↑(List.length A) : Int), SV.bool true, SV.int IntKind.i64 i,
          SV.int IntKind.i64 (IntKind.wrap IntKind.i64 (i + (1 : Int))), SV.vec 2 aA (List.length A) cA, SV.int IntKind.i64 i,
          SV.eptr 2 (Addr.blkD aA) (Addr.offD aA) 6 (Int.toNat i) 0,
          SV.agg
           [SV.int IntKind.i64 (List.getD A (Int.toNat i) (PR.mk (0 : Int) (0 : Int) (ByteArray.mk #[]) false (0 : Int) (ByteArray.mk #[]) false false)).1,
            SV.int IntKind.i64 (List.getD A (Int.toNat i) (PR.mk (0 : Int) (0 : Int) (ByteArray.mk #[]) false (0 : Int) (ByteArray.mk #[]) false false)).2,
            SV.str (List.getD A (Int.toNat i) (PR.mk (0 : Int) (0 : Int) (ByteArray.mk #[]) false (0 : Int) (ByteArray.mk #[]) false false)).3,
            SV.bool (List.getD A (Int.toNat i) (PR.mk (0 : Int) (0 : Int) (ByteArray.mk #[]) false (0 : Int) (ByteArray.mk #[]) false false)).4,
            SV.int IntKind.i64 (List.getD A (Int.toNat i) (PR.mk (0 : Int) (0 : Int) (ByteArray.mk #[]) false (0 : Int) (ByteArray.mk #[]) false false)).5,
            SV.str (List.getD A (Int.toNat i) (PR.mk (0 : Int) (0 : Int) (ByteArray.mk #[]) false (0 : Int) (ByteArray.mk #[]) false false)).6],
          SV.ptr 3 b_1 0, SV.int IntKind.i64 (List.getD A (Int.toNat i) (PR.mk (0 : Int) (0 : Int) (ByteArray.mk #[]) false (0 : Int) (ByteArray.mk #[]) false false)).1,
          SV.int IntKind.i64 (2 : Int), SV.bool true, SV.raw (u 93), SV.raw (u 94), SV.raw (u 95), SV.raw (u 96), SV.raw (u 97),
          SV.raw (u 98), SV.raw (u 99), SV.raw (u 100), SV.raw (u 101), SV.raw (u 102), SV.raw (u 103), SV.raw (u 104),
          SV.raw (u 105), SV.raw (u 106), SV.raw (u 107), SV.raw (u 108), SV.raw (u 109), SV.raw (u 110), SV.raw (u 111),
          SV.raw (u 112), SV.raw (u 113), SV.raw (u 114), SV.raw (u 115), SV.raw (u 116), SV.raw (u 117), SV.raw (u 118),
          SV.raw (u 119), SV.raw (u 120), SV.raw (u 121), SV.raw (u 122), SV.raw (u 123), SV.raw (u 124), SV.raw (u 125),
          SV.raw (u 126), SV.raw (u 127), SV.raw (u 128), SV.raw (u 129), SV.raw (u 130), SV.raw (u 131), SV.raw (u 132),
          SV.raw (u 133), SV.raw (u 134), SV.raw (u 135), SV.raw (u 136), SV.raw (u 137), SV.raw (u 138), SV.raw (u 139),
          SV.raw (u 140), SV.raw (u 141), SV.raw (u 142), SV.raw (u 143), SV.raw (u 144), SV.raw (u 145), SV.raw (u 146),
          SV.raw (u 147), SV.raw (u 148), SV.raw (u 149), SV.raw (u 150), SV.raw (u 151)]
         [pkA b ptE s, Ent.mk (Loc.sl ao cap) (SObj.vecL (3 : TypeId) 1 encI1 ls (0 : Int)),
          Ent.mk (Loc.sl aA cA) (SObj.vecL (45 : TypeId) 6 encP6 A (PR.mk (0 : Int) (0 : Int) (ByteArray.mk #[]) false (0 : Int) (ByteArray.mk #[]) false false)),
          Ent.mk (Loc.blk b_1)
           (SObj.cells
            [SV.int IntKind.i64 (List.getD A (Int.toNat i) (PR.mk (0 : Int) (0 : Int) (ByteArray.mk #[]) false (0 : Int) (ByteArray.mk #[]) false false)).1,
             SV.int IntKind.i64 (List.getD A (Int.toNat i) (PR.mk (0 : Int) (0 : Int) (ByteArray.mk #[]) false (0 : Int) (ByteArray.mk #[]) false false)).2,
             SV.str (List.getD A (Int.toNat i) (PR.mk (0 : Int) (0 : Int) (ByteArray.mk #[]) false (0 : Int) (ByteArray.mk #[]) false false)).3,
             SV.bool (List.getD A (Int.toNat i) (PR.mk (0 : Int) (0 : Int) (ByteArray.mk #[]) false (0 : Int) (ByteArray.mk #[]) false false)).4,
             SV.int IntKind.i64 (List.getD A (Int.toNat i) (PR.mk (0 : Int) (0 : Int) (ByteArray.mk #[]) false (0 : Int) (ByteArray.mk #[]) false false)).5,
             SV.str (List.getD A (Int.toNat i) (PR.mk (0 : Int) (0 : Int) (ByteArray.mk #[]) false (0 : Int) (ByteArray.mk #[]) false false)).6]
            45)])
      | false =>
       K
        (frm [J] (bodyOf Try.f6)
         [1, 1, 1, 1, 1, 1, 1, 1, 1, 1, 1, 0, 1, 0, 0, 1,
          0, 0, 1, 1, 1, 1, 0, 1, 0]
         [])
        (Sy.mk
         [SV.raw (u 0), SV.raw (u 1), SV.bool e, SV.raw (u 3), SV.raw (u 4), SV.raw (u 5), SV.raw (u 6), SV.int IntKind.i64 a,
          SV.int IntKind.i64 c, SV.raw (u 9), SV.int IntKind.i64 (2 : Int), SV.raw (u 11), SV.vec 1 ao (List.length ls) cap, SV.raw (u 13),
          SV.raw (u 14), SV.raw (u 15), SV.raw (u 16), SV.int IntKind.i64 (IntKind.wrap IntKind.i64 (n + (1 : Int))), SV.vec 2 aA (List.length A) cA,
          SV.int IntKind.i64 i, SV.ptr 3 b_1 0, SV.bool false, SV.int IntKind.i64 (0 : Int), SV.raw (u 23), SV.raw (u 24), SV.raw (u 25),
          SV.raw (u 26), SV.raw (u 27), SV.raw (u 28), SV.raw (u 29), SV.raw (u 30), SV.raw (u 31), SV.raw (u 32),
          SV.raw (u 33), SV.raw (u 34), SV.raw (u 35), SV.raw (u 36), SV.raw (u 37), SV.raw (u 38), SV.raw (u 39),
          SV.raw (u 40), SV.raw (u 41), SV.raw (u 42), SV.raw (u 43), SV.raw (u 44), SV.raw (u 45), SV.raw (u 46),
          SV.raw (u 47), SV.raw (u 48), SV.raw (u 49), SV.raw (u 50), SV.raw (u 51), SV.raw (u 52), SV.raw (u 53),
          SV.raw (u 54), SV.raw (u 55), SV.raw (u 56), SV.raw (u 57), SV.raw (u 58), SV.raw (u 59), SV.raw (u 60),
          SV.raw (u 61), SV.raw (u 62), SV.raw (u 63), SV.raw (u 64), SV.raw (u 65), SV.raw (u 66), SV.raw (u 67),
          SV.raw (u 68), SV.raw (u 69), SV.raw (u 70), SV.raw (u 71), SV.raw (u 72), SV.raw (u 73), SV.raw (u 74),
          SV.raw (u 75), SV.raw (u 76), SV.raw (u 77), SV.raw (u 78), SV.int IntKind.i64 i, SV.vec 2 aA (List.length A) cA,
          SV.int IntKind.i64 (↑(List.length A) : Int), SV.bool true, SV.raw (u 83), SV.raw (u 84), SV.vec 2 aA (List.length A) cA, SV.int IntKind.i64 i,
          SV.eptr 2 (Addr.blkD aA) (Addr.offD aA) 6 (Int.toNat i) 0,
          SV.agg
           [SV.int IntKind.i64 (List.getD A (Int.toNat i) (PR.mk (0 : Int) (0 : Int) (ByteArray.mk #[]) false (0 : Int) (ByteArray.mk #[]) false false)).1,
            SV.int IntKind.i64 (List.getD A (Int.toNat i) (PR.mk (0 : Int) (0 : Int) (ByteArray.mk #[]) false (0 : Int) (ByteArray.mk #[]) false false)).2,
            SV.str (List.getD A (Int.toNat i) (PR.mk (0 : Int) (0 : Int) (ByteArray.mk #[]) false (0 : Int) (ByteArray.mk #[]) false false)).3,
            SV.bool (List.getD A (Int.toNat i) (PR.mk (0 : Int) (0 : Int) (ByteArray.mk #[]) false (0 : Int) (ByteArray.mk #[]) false false)).4,
            SV.int IntKind.i64 (List.getD A (Int.toNat i) (PR.mk (0 : Int) (0 : Int) (ByteArray.mk #[]) false (0 : Int) (ByteArray.mk #[]) false false)).5,
            SV.str (List.getD A (Int.toNat i) (PR.mk (0 : Int) (0 : Int) (ByteArray.mk #[]) false (0 : Int) (ByteArray.mk #[]) false false)).6],
          SV.ptr 3 b_1 0, SV.int IntKind.i64 (List.getD A (Int.toNat i) (PR.mk (0 : Int) (0 : Int) (ByteArray.mk #[]) false (0 : Int) (ByteArray.mk #[]) false false)).1,
          SV.int IntKind.i64 (2 : Int), SV.bool false, SV.int IntKind.i64 n, SV.int IntKind.i64 (IntKind.wrap IntKind.i64 (n + (1 : Int))), SV.raw (u 95), SV.raw (u 96),
          SV.raw (u 97), SV.raw (u 98), SV.raw (u 99), SV.raw (u 100), SV.raw (u 101), SV.raw (u 102), SV.raw (u 103),
          SV.raw (u 104), SV.raw (u 105), SV.raw (u 106), SV.raw (u 107), SV.raw (u 108), SV.raw (u 109), SV.raw (u 110),
          SV.raw (u 111), SV.raw (u 112), SV.raw (u 113), SV.raw (u 114), SV.raw (u 115), SV.raw (u 116), SV.raw (u 117),
          SV.raw (u 118), SV.raw (u 119), SV.raw (u 120), SV.raw (u 121), SV.raw (u 122), SV.raw (u 123), SV.raw (u 124),
          SV.raw (u 125), SV.raw (u 126), SV.raw (u 127), SV.raw (u 128), SV.raw (u 129), SV.raw (u 130), SV.raw (u 131),
          SV.raw (u 132), SV.raw (u 133), SV.raw (u 134), SV.raw (u 135), SV.raw (u 136), SV.raw (u 137), SV.raw (u 138),
          SV.raw (u 139), SV.raw (u 140), SV.raw (u 141), SV.raw (u 142), SV.raw (u 143), SV.raw (u 144), SV.raw (u 145),
          SV.raw (u 146), SV.raw (u 147), SV.raw (u 148), SV.raw (u 149), SV.raw (u 150), SV.raw (u 151)]
         [pkA b ptE s, Ent.mk (Loc.sl ao cap) (SObj.vecL (3 : TypeId) 1 encI1 ls (0 : Int)),
          Ent.mk (Loc.sl aA cA) (SObj.vecL (45 : TypeId) 6 encP6 A (PR.mk (0 : Int) (0 : Int) (ByteArray.mk #[]) false (0 : Int) (ByteArray.mk #[]) false false)),
          Ent.mk (Loc.blk b_1)
           (SObj.cells
            [SV.int IntKind.i64 (List.getD A (Int.toNat i) (PR.mk (0 : Int) (0 : Int) (ByteArray.mk #[]) false (0 : Int) (ByteArray.mk #[]) false false)).1,
             SV.int IntKind.i64 (List.getD A (Int.toNat i) (PR.mk (0 : Int) (0 : Int) (ByteArray.mk #[]) false (0 : Int) (ByteArray.mk #[]) false false)).2,
             SV.str (List.getD A (Int.toNat i) (PR.mk (0 : Int) (0 : Int) (ByteArray.mk #[]) false (0 : Int) (ByteArray.mk #[]) false false)).3,
             SV.bool (List.getD A (Int.toNat i) (PR.mk (0 : Int) (0 : Int) (ByteArray.mk #[]) false (0 : Int) (ByteArray.mk #[]) false false)).4,
             SV.int IntKind.i64 (List.getD A (Int.toNat i) (PR.mk (0 : Int) (0 : Int) (ByteArray.mk #[]) false (0 : Int) (ByteArray.mk #[]) false false)).5,
             SV.str (List.getD A (Int.toNat i) (PR.mk (0 : Int) (0 : Int) (ByteArray.mk #[]) false (0 : Int) (ByteArray.mk #[]) false false)).6]
            45)])
| false =>
 N
  [pkA b ptE s, Ent.mk (Loc.sl ao cap) (SObj.vecL (3 : TypeId) 1 encI1 ls (0 : Int)),
   Ent.mk (Loc.sl aA cA) (SObj.vecL (45 : TypeId) 6 encP6 A (PR.mk (0 : Int) (0 : Int) (ByteArray.mk #[]) false (0 : Int) (ByteArray.mk #[]) false false))]
  (SV.bool (n == IntKind.wrap IntKind.i64 (a + IntKind.wrap IntKind.i64 (a * c))))) := by kernel_rfl


theorem pf_l4 (K : List Frm → Sy → Prop) (N : List Ent → SV → Prop) (J0 J1 : Act → World → Prop) (e : Bool) (a c : Int) (b : Nat) (s : PT) (ao : Option Addr) (cap : Nat) (ls : List Int) (aA : Option Addr) (cA : Nat) (A : List PR) (n i : Int) (x : PR) (bx : Nat) (mine : Bool) (k : Int) (u : Nat → Value) : (run Try.prog ptTk false [] K (retP Try.prog Try.f6.results.toList N) 2500 (frm [J0, J1] (bodyOf Try.f6) [1, 1, 1, 1, 1, 1, 1, 1, 1, 1, 1, 0, 1, 0, 0, 1, 0, 0, 1, 1, 1, 1, 0, 1, 0, 0] []) ⟨mkT u 152 0 [(2, .bool e), (7, .int .i64 a), (8, .int .i64 c), (10, .int .i64 2), (12, .vec 1 ao ls.length cap), (17, .int .i64 n), (18, .vec 2 aA A.length cA), (19, .int .i64 i), (20, .ptr 3 bx 0), (21, .bool mine), (22, .int .i64 k)], [pkA b ptE s, ⟨.sl ao cap, .vecL 3 1 encI1 ls 0⟩, ⟨.sl aA cA, .vecL 45 6 encP6 A PR.zero⟩, ⟨.blk bx, .cells (encP6 x) 45⟩]⟩) = (
match decide (k < (↑(List.length ls) : Int)) with
| true =>
 match mine with
 | true =>
  K
   (Frm.loop J1 ::
    Frm.blk 6 ::
     frm [J0] (bodyOf Try.f6)
      [1, 1, 1, 1, 1, 1, 1, 1, 1, 1, 1, 0, 1, 0, 0, 1, 0,
       0, 1, 1, 1, 1, 1]
      [])
   (Sy.mk
    [SV.raw (u 0), SV.raw (u 1), SV.bool e, SV.raw (u 3), SV.raw (u 4), SV.raw (u 5), SV.raw (u 6), SV.int IntKind.i64 a, SV.int IntKind.i64 c,
     SV.raw (u 9), SV.int IntKind.i64 (2 : Int), SV.raw (u 11), SV.vec 1 ao (List.length ls) cap, SV.raw (u 13), SV.raw (u 14), SV.raw (u 15),
     SV.raw (u 16), SV.int IntKind.i64 n, SV.vec 2 aA (List.length A) cA, SV.int IntKind.i64 i, SV.ptr 3 bx 0, SV.bool true,
     SV.int IntKind.i64 (IntKind.wrap IntKind.i64 (k + (1 : Int))), SV.raw (u 23), SV.raw (u 24), SV.raw (u 25), SV.raw (u 26), SV.raw (u 27),
     SV.raw (u 28), SV.raw (u 29), SV.raw (u 30), SV.raw (u 31), SV.raw (u 32), SV.raw (u 33), SV.raw (u 34), SV.raw (u 35),
     SV.raw (u 36), SV.raw (u 37), SV.raw (u 38), SV.raw (u 39), SV.raw (u 40), SV.raw (u 41), SV.raw (u 42), SV.raw (u 43),
     SV.raw (u 44), SV.raw (u 45), SV.raw (u 46), SV.raw (u 47), SV.raw (u 48), SV.raw (u 49), SV.raw (u 50), SV.raw (u 51),
     SV.raw (u 52), SV.raw (u 53), SV.raw (u 54), SV.raw (u 55), SV.raw (u 56), SV.raw (u 57), SV.raw (u 58), SV.raw (u 59),
     SV.raw (u 60), SV.raw (u 61), SV.raw (u 62), SV.raw (u 63), SV.raw (u 64), SV.raw (u 65), SV.raw (u 66), SV.raw (u 67),
     SV.raw (u 68), SV.raw (u 69), SV.raw (u 70), SV.raw (u 71), SV.raw (u 72), SV.raw (u 73), SV.raw (u 74), SV.raw (u 75),
     SV.raw (u 76), SV.raw (u 77), SV.raw (u 78), SV.raw (u 79), SV.raw (u 80), SV.raw (u 81), SV.raw (u 82), SV.raw (u 83),
     SV.raw (u 84), SV.raw (u 85), SV.raw (u 86), SV.raw (u 87), SV.raw (u 88), SV.raw (u 89), SV.raw (u 90), SV.raw (u 91),
     SV.raw (u 92), SV.raw (u 93), SV.raw (u 94), SV.int IntKind.i64 k, SV.vec 1 ao (List.length ls) cap, SV.int IntKind.i64 (↑(List.length ls) : Int),
     SV.bool true, SV.int IntKind.i64 k, SV.int IntKind.i64 (IntKind.wrap IntKind.i64 (k + (1 : Int))), SV.bool mine, SV.bool true, SV.raw (Value.tuple #[]), SV.raw (Value.tuple #[]),
     SV.raw (Value.tuple #[]), SV.raw (Value.tuple #[]), SV.raw (Value.tuple #[]), SV.raw (Value.tuple #[]), SV.raw (Value.tuple #[]), SV.bool true, SV.raw (u 111),
     SV.raw (u 112), SV.raw (u 113), SV.raw (u 114), SV.raw (u 115), SV.raw (u 116), SV.raw (u 117), SV.raw (u 118),
     SV.raw (u 119), SV.raw (u 120), SV.raw (u 121), SV.raw (u 122), SV.raw (u 123), SV.raw (u 124), SV.raw (u 125),
     SV.raw (u 126), SV.raw (u 127), SV.raw (u 128), SV.raw (u 129), SV.raw (u 130), SV.raw (u 131), SV.raw (u 132),
     SV.raw (u 133), SV.raw (u 134), SV.raw (u 135), SV.raw (u 136), SV.raw (u 137), SV.raw (u 138), SV.raw (u 139),
     SV.raw (u 140), SV.raw (u 141), SV.raw (u 142), SV.raw (u 143), SV.raw (u 144), SV.raw (u 145), SV.raw (u 146),
     SV.raw (u 147), SV.raw (u 148), SV.raw (u 149), SV.raw (u 150), SV.raw (u 151)]
    [pkA b ptE s, Ent.mk (Loc.sl ao cap) (SObj.vecL (3 : TypeId) 1 encI1 ls (0 : Int)),
     Ent.mk (Loc.sl aA cA) (SObj.vecL (45 : TypeId) 6 encP6 A (PR.mk (0 : Int) (0 : Int) (ByteArray.mk #[]) false (0 : Int) (ByteArray.mk #[]) false false)),
     Ent.mk (Loc.blk bx) (SObj.cells [SV.int IntKind.i64 x.1, SV.int IntKind.i64 x.2, SV.str x.3, SV.bool x.4, SV.int IntKind.i64 x.5, SV.str x.6] (45 : TypeId))])
 | false =>
  (ao = ao ∧ cap = cap ∧ List.length ls = List.length ls ∧ (0 : Int) ≤ k ∧ k < (↑(List.length ls) : Int)) ∧
   (Addr.blkD ao = Addr.blkD ao ∧ Addr.offD ao = Addr.offD ao ∧ 1 = 1 ∧ Int.toNat k < List.length ls) ∧
    bx = bx ∧
     K
      (Frm.loop J1 ::
       Frm.blk 6 ::
        frm [J0] (bodyOf Try.f6)
         [1, 1, 1, 1, 1, 1, 1, 1, 1, 1, 1, 0, 1, 0, 0, 1,
          0, 0, 1, 1, 1, 1, 1]
         [])
      (Sy.mk
       [SV.raw (u 0), SV.raw (u 1), SV.bool e, SV.raw (u 3), SV.raw (u 4), SV.raw (u 5), SV.raw (u 6), SV.int IntKind.i64 a,
        SV.int IntKind.i64 c, SV.raw (u 9), SV.int IntKind.i64 (2 : Int), SV.raw (u 11), SV.vec 1 ao (List.length ls) cap, SV.raw (u 13), SV.raw (u 14),
        SV.raw (u 15), SV.raw (u 16), SV.int IntKind.i64 n, SV.vec 2 aA (List.length A) cA, SV.int IntKind.i64 i, SV.ptr 3 bx 0,
        SV.bool (List.getD ls (Int.toNat k) (0 : Int) == x.1), SV.int IntKind.i64 (IntKind.wrap IntKind.i64 (k + (1 : Int))), SV.raw (u 23), SV.raw (u 24),
        SV.raw (u 25), SV.raw (u 26), SV.raw (u 27), SV.raw (u 28), SV.raw (u 29), SV.raw (u 30), SV.raw (u 31), SV.raw (u 32),
        SV.raw (u 33), SV.raw (u 34), SV.raw (u 35), SV.raw (u 36), SV.raw (u 37), SV.raw (u 38), SV.raw (u 39), SV.raw (u 40),
        SV.raw (u 41), SV.raw (u 42), SV.raw (u 43), SV.raw (u 44), SV.raw (u 45), SV.raw (u 46), SV.raw (u 47), SV.raw (u 48),
        SV.raw (u 49), SV.raw (u 50), SV.raw (u 51), SV.raw (u 52), SV.raw (u 53), SV.raw (u 54), SV.raw (u 55), SV.raw (u 56),
        SV.raw (u 57), SV.raw (u 58), SV.raw (u 59), SV.raw (u 60), SV.raw (u 61), SV.raw (u 62), SV.raw (u 63), SV.raw (u 64),
        SV.raw (u 65), SV.raw (u 66), SV.raw (u 67), SV.raw (u 68), SV.raw (u 69), SV.raw (u 70), SV.raw (u 71), SV.raw (u 72),
        SV.raw (u 73), SV.raw (u 74), SV.raw (u 75), SV.raw (u 76), SV.raw (u 77), SV.raw (u 78), SV.raw (u 79), SV.raw (u 80),
        SV.raw (u 81), SV.raw (u 82), SV.raw (u 83), SV.raw (u 84), SV.raw (u 85), SV.raw (u 86), SV.raw (u 87), SV.raw (u 88),
        SV.raw (u 89), SV.raw (u 90), SV.raw (u 91), SV.raw (u 92), SV.raw (u 93), SV.raw (u 94), SV.int IntKind.i64 k,
        SV.vec 1 ao (List.length ls) cap, SV.int IntKind.i64 (↑(List.length ls) : Int), SV.bool true, SV.int IntKind.i64 k,
        SV.int IntKind.i64 (IntKind.wrap IntKind.i64 (k + (1 : Int))), SV.bool mine, SV.bool false, SV.vec 1 ao (List.length ls) cap, SV.int IntKind.i64 k,
        SV.eptr 1 (Addr.blkD ao) (Addr.offD ao) 1 (Int.toNat k) 0, SV.int IntKind.i64 (List.getD ls (Int.toNat k) (0 : Int)), SV.ptr 3 bx 0,
        SV.int IntKind.i64 x.1, SV.bool (List.getD ls (Int.toNat k) (0 : Int) == x.1), SV.bool (List.getD ls (Int.toNat k) (0 : Int) == x.1), SV.raw (u 111), SV.raw (u 112),
        SV.raw (u 113), SV.raw (u 114), SV.raw (u 115), SV.raw (u 116), SV.raw (u 117), SV.raw (u 118), SV.raw (u 119),
        SV.raw (u 120), SV.raw (u 121), SV.raw (u 122), SV.raw (u 123), SV.raw (u 124), SV.raw (u 125), SV.raw (u 126),
        SV.raw (u 127), SV.raw (u 128), SV.raw (u 129), SV.raw (u 130), SV.raw (u 131), SV.raw (u 132), SV.raw (u 133),
        SV.raw (u 134), SV.raw (u 135), SV.raw (u 136), SV.raw (u 137), SV.raw (u 138), SV.raw (u 139), SV.raw (u 140),
        SV.raw (u 141), SV.raw (u 142), SV.raw (u 143), SV.raw (u 144), SV.raw (u 145), SV.raw (u 146), SV.raw (u 147),
        SV.raw (u 148), SV.raw (u 149), SV.raw (u 150), SV.raw (u 151)]
       [pkA b ptE s, Ent.mk (Loc.sl ao cap) (SObj.vecL (3 : TypeId) 1 encI1 ls (0 : Int)),
        Ent.mk (Loc.sl aA cA) (SObj.vecL (45 : TypeId) 6 encP6 A (PR.mk (0 : Int) (0 : Int) (ByteArray.mk #[]) false (0 : Int) (ByteArray.mk #[]) false false)),
        Ent.mk (Loc.blk bx) (SObj.cells [SV.int IntKind.i64 x.1, SV.int IntKind.i64 x.2, SV.str x.3, SV.bool x.4, SV.int IntKind.i64 x.5, SV.str x.6] (45 : TypeId))])
| false =>
 match e with
 | true =>
  match mine with
  | true =>
   bx = bx ∧
    match x.2 != (1 : Int) with
    | true =>
     true = true ∧
      true = true ∧
       true = true ∧
        true = true ∧
         true = true ∧
          true = true ∧
           true = true ∧
            true = true ∧
             true = true ∧
              N
               [pkA b ptE s, Ent.mk (Loc.sl ao cap) (SObj.vecL (3 : TypeId) 1 encI1 ls (0 : Int)),
                Ent.mk (Loc.sl aA cA) (SObj.vecL (45 : TypeId) 6 encP6 A (PR.mk (0 : Int) (0 : Int) (ByteArray.mk #[]) false (0 : Int) (ByteArray.mk #[]) false false)),
                Ent.mk (Loc.blk bx) (SObj.cells [SV.int IntKind.i64 x.1, SV.int IntKind.i64 x.2, SV.str x.3, SV.bool x.4, SV.int IntKind.i64 x.5, SV.str x.6] (45 : TypeId))]
               (SV.bool false)
    | false =>
     match !mine with
     | true =>
      bx = bx ∧
       match x.2 == (1 : Int) with
       | true =>
        N
         [pkA b ptE s, Ent.mk (Loc.sl ao cap) (SObj.vecL (3 : TypeId) 1 encI1 ls (0 : Int)),
          Ent.mk (Loc.sl aA cA) (SObj.vecL (45 : TypeId) 6 encP6 A (PR.mk (0 : Int) (0 : Int) (ByteArray.mk #[]) false (0 : Int) (ByteArray.mk #[]) false false)),
          Ent.mk (Loc.blk bx) (SObj.cells [SV.int IntKind.i64 x.1, SV.int IntKind.i64 x.2, SV.str x.3, SV.bool x.4, SV.int IntKind.i64 x.5, SV.str x.6] (45 : TypeId))]
         (SV.bool false)
       | false =>
        bx = bx ∧
         match x.2 == (2 : Int) with
         | true =>
          N
           [pkA b ptE s, Ent.mk (Loc.sl ao cap) (SObj.vecL (3 : TypeId) 1 encI1 ls (0 : Int)),
            Ent.mk (Loc.sl aA cA) (SObj.vecL (45 : TypeId) 6 encP6 A (PR.mk (0 : Int) (0 : Int) (ByteArray.mk #[]) false (0 : Int) (ByteArray.mk #[]) false false)),
            Ent.mk (Loc.blk bx) (SObj.cells [SV.int IntKind.i64 x.1, SV.int IntKind.i64 x.2, SV.str x.3, SV.bool x.4, SV.int IntKind.i64 x.5, SV.str x.6] (45 : TypeId))]
           (SV.bool false)
         | false =>
          bx = bx ∧
           match !sEq x.3 (ByteArray.mk #[(103 : UInt8)]) with
           | true =>
            N
             [pkA b ptE s, Ent.mk (Loc.sl ao cap) (SObj.vecL (3 : TypeId) 1 encI1 ls (0 : Int)),
              Ent.mk (Loc.sl aA cA) (SObj.vecL (45 : TypeId) 6 encP6 A (PR.mk (0 : Int) (0 : Int) (ByteArray.mk #[]) false (0 : Int) (ByteArray.mk #[]) false false)),
              Ent.mk (Loc.blk bx) (SObj.cells [SV.int IntKind.i64 x.1, SV.int IntKind.i64 x.2, SV.str x.3, SV.bool x.4, SV.int IntKind.i64 x.5, SV.str x.6] (45 : TypeId))]
             (SV.bool false)
           | false =>
            bx = bx ∧
             match !sEq x.6 (ByteArray.mk #[(99 : UInt8)]) with
             | true =>
              N
               [pkA b ptE s, Ent.mk (Loc.sl ao cap) (SObj.vecL (3 : TypeId) 1 encI1 ls (0 : Int)),
                Ent.mk (Loc.sl aA cA) (SObj.vecL (45 : TypeId) 6 encP6 A (PR.mk (0 : Int) (0 : Int) (ByteArray.mk #[]) false (0 : Int) (ByteArray.mk #[]) false false)),
                Ent.mk (Loc.blk bx) (SObj.cells [SV.int IntKind.i64 x.1, SV.int IntKind.i64 x.2, SV.str x.3, SV.bool x.4, SV.int IntKind.i64 x.5, SV.str x.6] (45 : TypeId))]
               (SV.bool false)
             | false =>
              K
               (Frm.loop J0 ::
                Frm.blk 4 ::
                 frm [] (bodyOf Try.f6) [1, 1, 1, 1, 1, 1, 1, 1, 1, 1, 1, 1] [])
               (Sy.mk
                [SV.raw (u 0), SV.raw (u 1), SV.bool e, SV.raw (u 3), SV.raw (u 4), SV.raw (u 5), SV.raw (u 6), SV.int IntKind.i64 a,
                 SV.int IntKind.i64 c, SV.raw (u 9), SV.int IntKind.i64 (2 : Int), SV.raw (u 11), SV.vec 1 ao (List.length ls) cap, SV.raw (u 13),
                 SV.raw (u 14), SV.raw (u 15), SV.raw (u 16), SV.int IntKind.i64 n, SV.vec 2 aA (List.length A) cA,
                 SV.int IntKind.i64 (IntKind.wrap IntKind.i64 (i + (1 : Int))), SV.ptr 3 bx 0, SV.bool mine, SV.int IntKind.i64 k, SV.int IntKind.i64 (1 : Int),
                 SV.raw (u 24), SV.raw (u 25), SV.raw (u 26), SV.raw (u 27), SV.raw (u 28), SV.raw (u 29), SV.raw (u 30),
                 SV.raw (u 31), SV.raw (u 32), SV.raw (u 33), SV.raw (u 34), SV.raw (u 35), SV.raw (u 36), SV.raw (u 37),
                 SV.raw (u 38), SV.raw (u 39), SV.raw (u 40), SV.raw (u 41), SV.raw (u 42), SV.raw (u 43), SV.raw (u 44),
                 SV.raw (u 45), SV.raw (u 46), SV.raw (u 47), SV.raw (u 48), SV.raw (u 49), SV.raw (u 50), SV.raw (u 51),
                 SV.raw (u 52), SV.raw (u 53), SV.raw (u 54), SV.raw (u 55), SV.raw (u 56), SV.raw (u 57), SV.raw (u 58),
                 SV.raw (u 59), SV.raw (u 60), SV.raw (u 61), SV.raw (u 62), SV.raw (u 63), SV.raw (u 64), SV.raw (u 65),
                 SV.raw (u 66), SV.raw (u 67), SV.raw (u 68), SV.raw (u 69), SV.raw (u 70), SV.raw (u 71), SV.raw (u 72),
                 SV.raw (u 73), SV.raw (u 74), SV.raw (u 75), SV.raw (u 76), SV.raw (u 77), SV.raw (u 78), SV.raw (u 79),
                 SV.raw (u 80), SV.raw (u 81), SV.raw (u 82), SV.int IntKind.i64 i, SV.int IntKind.i64 (IntKind.wrap IntKind.i64 (i + (1 : Int))),
                 SV.raw (u 85), SV.raw (u 86), SV.raw (u 87), SV.raw (u 88), SV.raw (u 89), SV.raw (u 90), SV.raw (u 91),
                 SV.raw (u 92), SV.raw (u 93), SV.raw (u 94), SV.int IntKind.i64 k, SV.vec 1 ao (List.length ls) cap,
                 SV.int IntKind.i64 (↑(List.length ls) : Int), SV.bool false, SV.raw (u 99), SV.raw (u 100), SV.raw (u 101), SV.raw (u 102),
                 SV.raw (u 103), SV.raw (u 104), SV.raw (u 105), SV.raw (u 106), SV.raw (u 107), SV.raw (u 108),
                 SV.raw (u 109), SV.raw (u 110), SV.int IntKind.i64 (2 : Int), SV.bool true, SV.bool mine, SV.bool true, SV.ptr 3 bx 1,
                 SV.int IntKind.i64 x.2, SV.int IntKind.i64 (1 : Int), SV.bool (x.2 != (1 : Int)), SV.bool (x.2 != (1 : Int)), SV.bool false, SV.bool mine, SV.bool !mine,
                 SV.bool true, SV.ptr 3 bx 1, SV.int IntKind.i64 x.2, SV.bool (x.2 == (1 : Int)), SV.bool false, SV.ptr 3 bx 1, SV.int IntKind.i64 x.2,
                 SV.int IntKind.i64 (2 : Int), SV.bool (x.2 == (2 : Int)), SV.bool (x.2 == (2 : Int)), SV.bool (x.2 == (2 : Int)), SV.bool (x.2 == (2 : Int)), SV.bool false,
                 SV.ptr 3 bx 2, SV.str x.3, SV.bool !sEq x.3 (ByteArray.mk #[(103 : UInt8)]), SV.bool !sEq x.3 (ByteArray.mk #[(103 : UInt8)]), SV.bool false,
                 SV.ptr 3 bx 5, SV.str x.6, SV.bool !sEq x.6 (ByteArray.mk #[(99 : UInt8)]), SV.bool false, SV.raw (u 145), SV.raw (u 146),
                 SV.raw (u 147), SV.raw (u 148), SV.raw (u 149), SV.raw (u 150), SV.raw (u 151)]
                [pkA b ptE s, Ent.mk (Loc.sl ao cap) (SObj.vecL (3 : TypeId) 1 encI1 ls (0 : Int)),
                 Ent.mk (Loc.sl aA cA) (SObj.vecL (45 : TypeId) 6 encP6 A (PR.mk (0 : Int) (0 : Int) (ByteArray.mk #[]) false (0 : Int) (ByteArray.mk #[]) false false)),
                 Ent.mk (Loc.blk bx) (SObj.cells [SV.int IntKind.i64 x.1, SV.int IntKind.i64 x.2, SV.str x.3, SV.bool x.4, SV.int IntKind.i64 x.5, SV.str x.6] (45 : TypeId))])
     | false =>
      true = true ∧
       true = true ∧
        true = true ∧
         true = true ∧
          bx = bx ∧
           match !sEq x.3 (ByteArray.mk #[(103 : UInt8)]) with
           | true =>
            N
             [pkA b ptE s, Ent.mk (Loc.sl ao cap) (SObj.vecL (3 : TypeId) 1 encI1 ls (0 : Int)),
              Ent.mk (Loc.sl aA cA) (SObj.vecL (45 : TypeId) 6 encP6 A (PR.mk (0 : Int) (0 : Int) (ByteArray.mk #[]) false (0 : Int) (ByteArray.mk #[]) false false)),
              Ent.mk (Loc.blk bx) (SObj.cells [SV.int IntKind.i64 x.1, SV.int IntKind.i64 x.2, SV.str x.3, SV.bool x.4, SV.int IntKind.i64 x.5, SV.str x.6] (45 : TypeId))]
             (SV.bool false)
           | false =>
            bx = bx ∧
             match !sEq x.6 (ByteArray.mk #[(99 : UInt8)]) with
             | true =>
              N
               [pkA b ptE s, Ent.mk (Loc.sl ao cap) (SObj.vecL (3 : TypeId) 1 encI1 ls (0 : Int)),
                Ent.mk (Loc.sl aA cA) (SObj.vecL (45 : TypeId) 6 encP6 A (PR.mk (0 : Int) (0 : Int) (ByteArray.mk #[]) false (0 : Int) (ByteArray.mk #[]) false false)),
                Ent.mk (Loc.blk bx) (SObj.cells [SV.int IntKind.i64 x.1, SV.int IntKind.i64 x.2, SV.str x.3, SV.bool x.4, SV.int IntKind.i64 x.5, SV.str x.6] (45 : TypeId))]
               (SV.bool false)
             | false =>
              K
               (Frm.loop J0 ::
                Frm.blk 4 ::
                 frm [] (bodyOf Try.f6) [1, 1, 1, 1, 1, 1, 1, 1, 1, 1, 1, 1] [])
               (Sy.mk
                [SV.raw (u 0), SV.raw (u 1), SV.bool e, SV.raw (u 3), SV.raw (u 4), SV.raw (u 5), SV.raw (u 6), SV.int IntKind.i64 a,
                 SV.int IntKind.i64 c, SV.raw (u 9), SV.int IntKind.i64 (2 : Int), SV.raw (u 11), SV.vec 1 ao (List.length ls) cap, SV.raw (u 13),
                 SV.raw (u 14), SV.raw (u 15), SV.raw (u 16), SV.int IntKind.i64 n, SV.vec 2 aA (List.length A) cA,
                 SV.int IntKind.i64 (IntKind.wrap IntKind.i64 (i + (1 : Int))), SV.ptr 3 bx 0, SV.bool mine, SV.int IntKind.i64 k, SV.int IntKind.i64 (1 : Int),
                 SV.raw (u 24), SV.raw (u 25), SV.raw (u 26), SV.raw (u 27), SV.raw (u 28), SV.raw (u 29), SV.raw (u 30),
                 SV.raw (u 31), SV.raw (u 32), SV.raw (u 33), SV.raw (u 34), SV.raw (u 35), SV.raw (u 36), SV.raw (u 37),
                 SV.raw (u 38), SV.raw (u 39), SV.raw (u 40), SV.raw (u 41), SV.raw (u 42), SV.raw (u 43), SV.raw (u 44),
                 SV.raw (u 45), SV.raw (u 46), SV.raw (u 47), SV.raw (u 48), SV.raw (u 49), SV.raw (u 50), SV.raw (u 51),
                 SV.raw (u 52), SV.raw (u 53), SV.raw (u 54), SV.raw (u 55), SV.raw (u 56), SV.raw (u 57), SV.raw (u 58),
                 SV.raw (u 59), SV.raw (u 60), SV.raw (u 61), SV.raw (u 62), SV.raw (u 63), SV.raw (u 64), SV.raw (u 65),
                 SV.raw (u 66), SV.raw (u 67), SV.raw (u 68), SV.raw (u 69), SV.raw (u 70), SV.raw (u 71), SV.raw (u 72),
                 SV.raw (u 73), SV.raw (u 74), SV.raw (u 75), SV.raw (u 76), SV.raw (u 77), SV.raw (u 78), SV.raw (u 79),
                 SV.raw (u 80), SV.raw (u 81), SV.raw (u 82), SV.int IntKind.i64 i, SV.int IntKind.i64 (IntKind.wrap IntKind.i64 (i + (1 : Int))),
                 SV.raw (u 85), SV.raw (u 86), SV.raw (u 87), SV.raw (u 88), SV.raw (u 89), SV.raw (u 90), SV.raw (u 91),
                 SV.raw (u 92), SV.raw (u 93), SV.raw (u 94), SV.int IntKind.i64 k, SV.vec 1 ao (List.length ls) cap,
                 SV.int IntKind.i64 (↑(List.length ls) : Int), SV.bool false, SV.raw (u 99), SV.raw (u 100), SV.raw (u 101), SV.raw (u 102),
                 SV.raw (u 103), SV.raw (u 104), SV.raw (u 105), SV.raw (u 106), SV.raw (u 107), SV.raw (u 108),
                 SV.raw (u 109), SV.raw (u 110), SV.int IntKind.i64 (2 : Int), SV.bool true, SV.bool mine, SV.bool true, SV.ptr 3 bx 1,
                 SV.int IntKind.i64 x.2, SV.int IntKind.i64 (1 : Int), SV.bool (x.2 != (1 : Int)), SV.bool (x.2 != (1 : Int)), SV.bool false, SV.bool mine, SV.bool !mine,
                 SV.bool false, SV.raw (Value.tuple #[]), SV.raw (Value.tuple #[]), SV.raw (Value.tuple #[]), SV.raw (Value.tuple #[]), SV.raw (Value.tuple #[]),
                 SV.raw (Value.tuple #[]), SV.raw (Value.tuple #[]), SV.raw (Value.tuple #[]), SV.raw (Value.tuple #[]), SV.bool false, SV.bool false, SV.bool false,
                 SV.ptr 3 bx 2, SV.str x.3, SV.bool !sEq x.3 (ByteArray.mk #[(103 : UInt8)]), SV.bool !sEq x.3 (ByteArray.mk #[(103 : UInt8)]), SV.bool false,
                 SV.ptr 3 bx 5, SV.str x.6, SV.bool !sEq x.6 (ByteArray.mk #[(99 : UInt8)]), SV.bool false, SV.raw (u 145), SV.raw (u 146),
                 SV.raw (u 147), SV.raw (u 148), SV.raw (u 149), SV.raw (u 150), SV.raw (u 151)]
                [pkA b ptE s, Ent.mk (Loc.sl ao cap) (SObj.vecL (3 : TypeId) 1 encI1 ls (0 : Int)),
                 Ent.mk (Loc.sl aA cA) (SObj.vecL (45 : TypeId) 6 encP6 A (PR.mk (0 : Int) (0 : Int) (ByteArray.mk #[]) false (0 : Int) (ByteArray.mk #[]) false false)),
                 Ent.mk (Loc.blk bx) (SObj.cells [SV.int IntKind.i64 x.1, SV.int IntKind.i64 x.2, SV.str x.3, SV.bool x.4, SV.int IntKind.i64 x.5, SV.str x.6] (45 : TypeId))])
  | false =>
   match !mine with
   | true =>
    bx = bx ∧
     match x.2 == (1 : Int) with
     | true =>
      N
       [pkA b ptE s, Ent.mk (Loc.sl ao cap) (SObj.vecL (3 : TypeId) 1 encI1 ls (0 : Int)),
        Ent.mk (Loc.sl aA cA) (SObj.vecL (45 : TypeId) 6 encP6 A (PR.mk (0 : Int) (0 : Int) (ByteArray.mk #[]) false (0 : Int) (ByteArray.mk #[]) false false)),
        Ent.mk (Loc.blk bx) (SObj.cells [SV.int IntKind.i64 x.1, SV.int IntKind.i64 x.2, SV.str x.3, SV.bool x.4, SV.int IntKind.i64 x.5, SV.str x.6] (45 : TypeId))]
       (SV.bool false)
     | false =>
      bx = bx ∧
       match x.2 == (2 : Int) with
       | true =>
        N
         [pkA b ptE s, Ent.mk (Loc.sl ao cap) (SObj.vecL (3 : TypeId) 1 encI1 ls (0 : Int)),
          Ent.mk (Loc.sl aA cA) (SObj.vecL (45 : TypeId) 6 encP6 A (PR.mk (0 : Int) (0 : Int) (ByteArray.mk #[]) false (0 : Int) (ByteArray.mk #[]) false false)),
          Ent.mk (Loc.blk bx) (SObj.cells [SV.int IntKind.i64 x.1, SV.int IntKind.i64 x.2, SV.str x.3, SV.bool x.4, SV.int IntKind.i64 x.5, SV.str x.6] (45 : TypeId))]
         (SV.bool false)
       | false =>
        bx = bx ∧
         match !sEq x.3 (ByteArray.mk #[(103 : UInt8)]) with
         | true =>
          N
           [pkA b ptE s, Ent.mk (Loc.sl ao cap) (SObj.vecL (3 : TypeId) 1 encI1 ls (0 : Int)),
            Ent.mk (Loc.sl aA cA) (SObj.vecL (45 : TypeId) 6 encP6 A (PR.mk (0 : Int) (0 : Int) (ByteArray.mk #[]) false (0 : Int) (ByteArray.mk #[]) false false)),
            Ent.mk (Loc.blk bx) (SObj.cells [SV.int IntKind.i64 x.1, SV.int IntKind.i64 x.2, SV.str x.3, SV.bool x.4, SV.int IntKind.i64 x.5, SV.str x.6] (45 : TypeId))]
           (SV.bool false)
         | false =>
          bx = bx ∧
           match !sEq x.6 (ByteArray.mk #[(99 : UInt8)]) with
           | true =>
            N
             [pkA b ptE s, Ent.mk (Loc.sl ao cap) (SObj.vecL (3 : TypeId) 1 encI1 ls (0 : Int)),
              Ent.mk (Loc.sl aA cA) (SObj.vecL (45 : TypeId) 6 encP6 A (PR.mk (0 : Int) (0 : Int) (ByteArray.mk #[]) false (0 : Int) (ByteArray.mk #[]) false false)),
              Ent.mk (Loc.blk bx) (SObj.cells [SV.int IntKind.i64 x.1, SV.int IntKind.i64 x.2, SV.str x.3, SV.bool x.4, SV.int IntKind.i64 x.5, SV.str x.6] (45 : TypeId))]
             (SV.bool false)
           | false =>
            K
             (Frm.loop J0 ::
              Frm.blk 4 ::
               frm [] (bodyOf Try.f6) [1, 1, 1, 1, 1, 1, 1, 1, 1, 1, 1, 1] [])
             (Sy.mk
              [SV.raw (u 0), SV.raw (u 1), SV.bool e, SV.raw (u 3), SV.raw (u 4), SV.raw (u 5), SV.raw (u 6), SV.int IntKind.i64 a,
               SV.int IntKind.i64 c, SV.raw (u 9), SV.int IntKind.i64 (2 : Int), SV.raw (u 11), SV.vec 1 ao (List.length ls) cap, SV.raw (u 13),
               SV.raw (u 14), SV.raw (u 15), SV.raw (u 16), SV.int IntKind.i64 n, SV.vec 2 aA (List.length A) cA,
               SV.int IntKind.i64 (IntKind.wrap IntKind.i64 (i + (1 : Int))), SV.ptr 3 bx 0, SV.bool mine, SV.int IntKind.i64 k, SV.int IntKind.i64 (1 : Int),
               SV.raw (u 24), SV.raw (u 25), SV.raw (u 26), SV.raw (u 27), SV.raw (u 28), SV.raw (u 29), SV.raw (u 30),
               SV.raw (u 31), SV.raw (u 32), SV.raw (u 33), SV.raw (u 34), SV.raw (u 35), SV.raw (u 36), SV.raw (u 37),
               SV.raw (u 38), SV.raw (u 39), SV.raw (u 40), SV.raw (u 41), SV.raw (u 42), SV.raw (u 43), SV.raw (u 44),
               SV.raw (u 45), SV.raw (u 46), SV.raw (u 47), SV.raw (u 48), SV.raw (u 49), SV.raw (u 50), SV.raw (u 51),
               SV.raw (u 52), SV.raw (u 53), SV.raw (u 54), SV.raw (u 55), SV.raw (u 56), SV.raw (u 57), SV.raw (u 58),
               SV.raw (u 59), SV.raw (u 60), SV.raw (u 61), SV.raw (u 62), SV.raw (u 63), SV.raw (u 64), SV.raw (u 65),
               SV.raw (u 66), SV.raw (u 67), SV.raw (u 68), SV.raw (u 69), SV.raw (u 70), SV.raw (u 71), SV.raw (u 72),
               SV.raw (u 73), SV.raw (u 74), SV.raw (u 75), SV.raw (u 76), SV.raw (u 77), SV.raw (u 78), SV.raw (u 79),
               SV.raw (u 80), SV.raw (u 81), SV.raw (u 82), SV.int IntKind.i64 i, SV.int IntKind.i64 (IntKind.wrap IntKind.i64 (i + (1 : Int))),
               SV.raw (u 85), SV.raw (u 86), SV.raw (u 87), SV.raw (u 88), SV.raw (u 89), SV.raw (u 90), SV.raw (u 91),
               SV.raw (u 92), SV.raw (u 93), SV.raw (u 94), SV.int IntKind.i64 k, SV.vec 1 ao (List.length ls) cap,
               SV.int IntKind.i64 (↑(List.length ls) : Int), SV.bool false, SV.raw (u 99), SV.raw (u 100), SV.raw (u 101), SV.raw (u 102),
               SV.raw (u 103), SV.raw (u 104), SV.raw (u 105), SV.raw (u 106), SV.raw (u 107), SV.raw (u 108), SV.raw (u 109),
               SV.raw (u 110), SV.int IntKind.i64 (2 : Int), SV.bool true, SV.bool mine, SV.bool false, SV.raw (Value.tuple #[]), SV.raw (Value.tuple #[]),
               SV.raw (Value.tuple #[]), SV.raw (Value.tuple #[]), SV.bool false, SV.bool false, SV.bool mine, SV.bool !mine, SV.bool true, SV.ptr 3 bx 1,
               SV.int IntKind.i64 x.2, SV.bool (x.2 == (1 : Int)), SV.bool false, SV.ptr 3 bx 1, SV.int IntKind.i64 x.2, SV.int IntKind.i64 (2 : Int),
               SV.bool (x.2 == (2 : Int)), SV.bool (x.2 == (2 : Int)), SV.bool (x.2 == (2 : Int)), SV.bool (x.2 == (2 : Int)), SV.bool false, SV.ptr 3 bx 2, SV.str x.3,
               SV.bool !sEq x.3 (ByteArray.mk #[(103 : UInt8)]), SV.bool !sEq x.3 (ByteArray.mk #[(103 : UInt8)]), SV.bool false, SV.ptr 3 bx 5, SV.str x.6,
               SV.bool !sEq x.6 (ByteArray.mk #[(99 : UInt8)]), SV.bool false, SV.raw (u 145), SV.raw (u 146), SV.raw (u 147), SV.raw (u 148),
               SV.raw (u 149), SV.raw (u 150), SV.raw (u 151)]
              [pkA b ptE s, Ent.mk (Loc.sl ao cap) (SObj.vecL (3 : TypeId) 1 encI1 ls (0 : Int)),
               Ent.mk (Loc.sl aA cA) (SObj.vecL (45 : TypeId) 6 encP6 A (PR.mk (0 : Int) (0 : Int) (ByteArray.mk #[]) false (0 : Int) (ByteArray.mk #[]) false false)),
               Ent.mk (Loc.blk bx) (SObj.cells [SV.int IntKind.i64 x.1, SV.int IntKind.i64 x.2, SV.str x.3, SV.bool x.4, SV.int IntKind.i64 x.5, SV.str x.6] (45 : TypeId))])
   | false =>
    true = true ∧
     true = true ∧
      true = true ∧
       true = true ∧
        bx = bx ∧
         match !sEq x.3 (ByteArray.mk #[(103 : UInt8)]) with
         | true =>
          N
           [pkA b ptE s, Ent.mk (Loc.sl ao cap) (SObj.vecL (3 : TypeId) 1 encI1 ls (0 : Int)),
            Ent.mk (Loc.sl aA cA) (SObj.vecL (45 : TypeId) 6 encP6 A (PR.mk (0 : Int) (0 : Int) (ByteArray.mk #[]) false (0 : Int) (ByteArray.mk #[]) false false)),
            Ent.mk (Loc.blk bx) (SObj.cells [SV.int IntKind.i64 x.1, SV.int IntKind.i64 x.2, SV.str x.3, SV.bool x.4, SV.int IntKind.i64 x.5, SV.str x.6] (45 : TypeId))]
           (SV.bool false)
         | false =>
          bx = bx ∧
           match !sEq x.6 (ByteArray.mk #[(99 : UInt8)]) with
           | true =>
            N
             [pkA b ptE s, Ent.mk (Loc.sl ao cap) (SObj.vecL (3 : TypeId) 1 encI1 ls (0 : Int)),
              Ent.mk (Loc.sl aA cA) (SObj.vecL (45 : TypeId) 6 encP6 A (PR.mk (0 : Int) (0 : Int) (ByteArray.mk #[]) false (0 : Int) (ByteArray.mk #[]) false false)),
              Ent.mk (Loc.blk bx) (SObj.cells [SV.int IntKind.i64 x.1, SV.int IntKind.i64 x.2, SV.str x.3, SV.bool x.4, SV.int IntKind.i64 x.5, SV.str x.6] (45 : TypeId))]
             (SV.bool false)
           | false =>
            K
             (Frm.loop J0 ::
              Frm.blk 4 ::
               frm [] (bodyOf Try.f6) [1, 1, 1, 1, 1, 1, 1, 1, 1, 1, 1, 1] [])
             (Sy.mk
              [SV.raw (u 0), SV.raw (u 1), SV.bool e, SV.raw (u 3), SV.raw (u 4), SV.raw (u 5), SV.raw (u 6), SV.int IntKind.i64 a,
               SV.int IntKind.i64 c, SV.raw (u 9), SV.int IntKind.i64 (2 : Int), SV.raw (u 11), SV.vec 1 ao (List.length ls) cap, SV.raw (u 13),
               SV.raw (u 14), SV.raw (u 15), SV.raw (u 16), SV.int IntKind.i64 n, SV.vec 2 aA (List.length A) cA,
               SV.int IntKind.i64 (IntKind.wrap IntKind.i64 (i + (1 : Int))), SV.ptr 3 bx 0, SV.bool mine, SV.int IntKind.i64 k, SV.int IntKind.i64 (1 : Int),
               SV.raw (u 24), SV.raw (u 25), SV.raw (u 26), SV.raw (u 27), SV.raw (u 28), SV.raw (u 29), SV.raw (u 30),
               SV.raw (u 31), SV.raw (u 32), SV.raw (u 33), SV.raw (u 34), SV.raw (u 35), SV.raw (u 36), SV.raw (u 37),
               SV.raw (u 38), SV.raw (u 39), SV.raw (u 40), SV.raw (u 41), SV.raw (u 42), SV.raw (u 43), SV.raw (u 44),
               SV.raw (u 45), SV.raw (u 46), SV.raw (u 47), SV.raw (u 48), SV.raw (u 49), SV.raw (u 50), SV.raw (u 51),
               SV.raw (u 52), SV.raw (u 53), SV.raw (u 54), SV.raw (u 55), SV.raw (u 56), SV.raw (u 57), SV.raw (u 58),
               SV.raw (u 59), SV.raw (u 60), SV.raw (u 61), SV.raw (u 62), SV.raw (u 63), SV.raw (u 64), SV.raw (u 65),
               SV.raw (u 66), SV.raw (u 67), SV.raw (u 68), SV.raw (u 69), SV.raw (u 70), SV.raw (u 71), SV.raw (u 72),
               SV.raw (u 73), SV.raw (u 74), SV.raw (u 75), SV.raw (u 76), SV.raw (u 77), SV.raw (u 78), SV.raw (u 79),
               SV.raw (u 80), SV.raw (u 81), SV.raw (u 82), SV.int IntKind.i64 i, SV.int IntKind.i64 (IntKind.wrap IntKind.i64 (i + (1 : Int))),
               SV.raw (u 85), SV.raw (u 86), SV.raw (u 87), SV.raw (u 88), SV.raw (u 89), SV.raw (u 90), SV.raw (u 91),
               SV.raw (u 92), SV.raw (u 93), SV.raw (u 94), SV.int IntKind.i64 k, SV.vec 1 ao (List.length ls) cap,
               SV.int IntKind.i64 (↑(List.length ls) : Int), SV.bool false, SV.raw (u 99), SV.raw (u 100), SV.raw (u 101), SV.raw (u 102),
               SV.raw (u 103), SV.raw (u 104), SV.raw (u 105), SV.raw (u 106), SV.raw (u 107), SV.raw (u 108), SV.raw (u 109),
               SV.raw (u 110), SV.int IntKind.i64 (2 : Int), SV.bool true, SV.bool mine, SV.bool false, SV.raw (Value.tuple #[]), SV.raw (Value.tuple #[]),
               SV.raw (Value.tuple #[]), SV.raw (Value.tuple #[]), SV.bool false, SV.bool false, SV.bool mine, SV.bool !mine, SV.bool false, SV.raw (Value.tuple #[]),
               SV.raw (Value.tuple #[]), SV.raw (Value.tuple #[]), SV.raw (Value.tuple #[]), SV.raw (Value.tuple #[]), SV.raw (Value.tuple #[]), SV.raw (Value.tuple #[]),
               SV.raw (Value.tuple #[]), SV.raw (Value.tuple #[]), SV.bool false, SV.bool false, SV.bool false, SV.ptr 3 bx 2, SV.str x.3,
               SV.bool !sEq x.3 (ByteArray.mk #[(103 : UInt8)]), SV.bool !sEq x.3 (ByteArray.mk #[(103 : UInt8)]), SV.bool false, SV.ptr 3 bx 5, SV.str x.6,
               SV.bool !sEq x.6 (ByteArray.mk #[(99 : UInt8)]), SV.bool false, SV.raw (u 145), SV.raw (u 146), SV.raw (u 147), SV.raw (u 148),
               SV.raw (u 149), SV.raw (u 150), SV.raw (u 151)]
              [pkA b ptE s, Ent.mk (Loc.sl ao cap) (SObj.vecL (3 : TypeId) 1 encI1 ls (0 : Int)),
               Ent.mk (Loc.sl aA cA) (SObj.vecL (45 : TypeId) 6 encP6 A (PR.mk (0 : Int) (0 : Int) (ByteArray.mk #[]) false (0 : Int) (ByteArray.mk #[]) false false)),
               Ent.mk (Loc.blk bx) (SObj.cells [SV.int IntKind.i64 x.1, SV.int IntKind.i64 x.2, SV.str x.3, SV.bool x.4, SV.int IntKind.i64 x.5, SV.str x.6] (45 : TypeId))])
 | false =>
  match mine with
  | true =>
   bx = bx ∧
    match x.2 != (2 : Int) with
    | true =>
     true = true ∧
      true = true ∧
       true = true ∧
        true = true ∧
         true = true ∧
          true = true ∧
           true = true ∧
            true = true ∧
             true = true ∧
              N
               [pkA b ptE s, Ent.mk (Loc.sl ao cap) (SObj.vecL (3 : TypeId) 1 encI1 ls (0 : Int)),
                Ent.mk (Loc.sl aA cA) (SObj.vecL (45 : TypeId) 6 encP6 A (PR.mk (0 : Int) (0 : Int) (ByteArray.mk #[]) false (0 : Int) (ByteArray.mk #[]) false false)),
                Ent.mk (Loc.blk bx) (SObj.cells [SV.int IntKind.i64 x.1, SV.int IntKind.i64 x.2, SV.str x.3, SV.bool x.4, SV.int IntKind.i64 x.5, SV.str x.6] (45 : TypeId))]
               (SV.bool false)
    | false =>
     match !mine with
     | true =>
      bx = bx ∧
       match x.2 == (1 : Int) with
       | true =>
        N
         [pkA b ptE s, Ent.mk (Loc.sl ao cap) (SObj.vecL (3 : TypeId) 1 encI1 ls (0 : Int)),
          Ent.mk (Loc.sl aA cA) (SObj.vecL (45 : TypeId) 6 encP6 A (PR.mk (0 : Int) (0 : Int) (ByteArray.mk #[]) false (0 : Int) (ByteArray.mk #[]) false false)),
          Ent.mk (Loc.blk bx) (SObj.cells [SV.int IntKind.i64 x.1, SV.int IntKind.i64 x.2, SV.str x.3, SV.bool x.4, SV.int IntKind.i64 x.5, SV.str x.6] (45 : TypeId))]
         (SV.bool false)
       | false =>
        bx = bx ∧
         match x.2 == (2 : Int) with
         | true =>
          N
           [pkA b ptE s, Ent.mk (Loc.sl ao cap) (SObj.vecL (3 : TypeId) 1 encI1 ls (0 : Int)),
            Ent.mk (Loc.sl aA cA) (SObj.vecL (45 : TypeId) 6 encP6 A (PR.mk (0 : Int) (0 : Int) (ByteArray.mk #[]) false (0 : Int) (ByteArray.mk #[]) false false)),
            Ent.mk (Loc.blk bx) (SObj.cells [SV.int IntKind.i64 x.1, SV.int IntKind.i64 x.2, SV.str x.3, SV.bool x.4, SV.int IntKind.i64 x.5, SV.str x.6] (45 : TypeId))]
           (SV.bool false)
         | false =>
          bx = bx ∧
           match !sEq x.3 (ByteArray.mk #[(103 : UInt8)]) with
           | true =>
            N
             [pkA b ptE s, Ent.mk (Loc.sl ao cap) (SObj.vecL (3 : TypeId) 1 encI1 ls (0 : Int)),
              Ent.mk (Loc.sl aA cA) (SObj.vecL (45 : TypeId) 6 encP6 A (PR.mk (0 : Int) (0 : Int) (ByteArray.mk #[]) false (0 : Int) (ByteArray.mk #[]) false false)),
              Ent.mk (Loc.blk bx) (SObj.cells [SV.int IntKind.i64 x.1, SV.int IntKind.i64 x.2, SV.str x.3, SV.bool x.4, SV.int IntKind.i64 x.5, SV.str x.6] (45 : TypeId))]
             (SV.bool false)
           | false =>
            bx = bx ∧
             match !sEq x.6 (ByteArray.mk #[(99 : UInt8)]) with
             | true =>
              N
               [pkA b ptE s, Ent.mk (Loc.sl ao cap) (SObj.vecL (3 : TypeId) 1 encI1 ls (0 : Int)),
                Ent.mk (Loc.sl aA cA) (SObj.vecL (45 : TypeId) 6 encP6 A (PR.mk (0 : Int) (0 : Int) (ByteArray.mk #[]) false (0 : Int) (ByteArray.mk #[]) false false)),
                Ent.mk (Loc.blk bx) (SObj.cells [SV.int IntKind.i64 x.1, SV.int IntKind.i64 x.2, SV.str x.3, SV.bool x.4, SV.int IntKind.i64 x.5, SV.str x.6] (45 : TypeId))]
               (SV.bool false)
             | false =>
              K
               (Frm.loop J0 ::
                Frm.blk 4 ::
                 frm [] (bodyOf Try.f6) [1, 1, 1, 1, 1, 1, 1, 1, 1, 1, 1, 1] [])
               (Sy.mk
                [SV.raw (u 0), SV.raw (u 1), SV.bool e, SV.raw (u 3), SV.raw (u 4), SV.raw (u 5), SV.raw (u 6), SV.int IntKind.i64 a,
                 SV.int IntKind.i64 c, SV.raw (u 9), SV.int IntKind.i64 (2 : Int), SV.raw (u 11), SV.vec 1 ao (List.length ls) cap, SV.raw (u 13),
                 SV.raw (u 14), SV.raw (u 15), SV.raw (u 16), SV.int IntKind.i64 n, SV.vec 2 aA (List.length A) cA,
                 SV.int IntKind.i64 (IntKind.wrap IntKind.i64 (i + (1 : Int))), SV.ptr 3 bx 0, SV.bool mine, SV.int IntKind.i64 k, SV.int IntKind.i64 (2 : Int),
                 SV.raw (u 24), SV.raw (u 25), SV.raw (u 26), SV.raw (u 27), SV.raw (u 28), SV.raw (u 29), SV.raw (u 30),
                 SV.raw (u 31), SV.raw (u 32), SV.raw (u 33), SV.raw (u 34), SV.raw (u 35), SV.raw (u 36), SV.raw (u 37),
                 SV.raw (u 38), SV.raw (u 39), SV.raw (u 40), SV.raw (u 41), SV.raw (u 42), SV.raw (u 43), SV.raw (u 44),
                 SV.raw (u 45), SV.raw (u 46), SV.raw (u 47), SV.raw (u 48), SV.raw (u 49), SV.raw (u 50), SV.raw (u 51),
                 SV.raw (u 52), SV.raw (u 53), SV.raw (u 54), SV.raw (u 55), SV.raw (u 56), SV.raw (u 57), SV.raw (u 58),
                 SV.raw (u 59), SV.raw (u 60), SV.raw (u 61), SV.raw (u 62), SV.raw (u 63), SV.raw (u 64), SV.raw (u 65),
                 SV.raw (u 66), SV.raw (u 67), SV.raw (u 68), SV.raw (u 69), SV.raw (u 70), SV.raw (u 71), SV.raw (u 72),
                 SV.raw (u 73), SV.raw (u 74), SV.raw (u 75), SV.raw (u 76), SV.raw (u 77), SV.raw (u 78), SV.raw (u 79),
                 SV.raw (u 80), SV.raw (u 81), SV.raw (u 82), SV.int IntKind.i64 i, SV.int IntKind.i64 (IntKind.wrap IntKind.i64 (i + (1 : Int))),
                 SV.raw (u 85), SV.raw (u 86), SV.raw (u 87), SV.raw (u 88), SV.raw (u 89), SV.raw (u 90), SV.raw (u 91),
                 SV.raw (u 92), SV.raw (u 93), SV.raw (u 94), SV.int IntKind.i64 k, SV.vec 1 ao (List.length ls) cap,
                 SV.int IntKind.i64 (↑(List.length ls) : Int), SV.bool false, SV.raw (u 99), SV.raw (u 100), SV.raw (u 101), SV.raw (u 102),
                 SV.raw (u 103), SV.raw (u 104), SV.raw (u 105), SV.raw (u 106), SV.raw (u 107), SV.raw (u 108),
                 SV.raw (u 109), SV.raw (u 110), SV.int IntKind.i64 (2 : Int), SV.bool false, SV.bool mine, SV.bool true, SV.ptr 3 bx 1,
                 SV.int IntKind.i64 x.2, SV.int IntKind.i64 (2 : Int), SV.bool (x.2 != (2 : Int)), SV.bool (x.2 != (2 : Int)), SV.bool false, SV.bool mine, SV.bool !mine,
                 SV.bool true, SV.ptr 3 bx 1, SV.int IntKind.i64 x.2, SV.bool (x.2 == (1 : Int)), SV.bool false, SV.ptr 3 bx 1, SV.int IntKind.i64 x.2,
                 SV.int IntKind.i64 (2 : Int), SV.bool (x.2 == (2 : Int)), SV.bool (x.2 == (2 : Int)), SV.bool (x.2 == (2 : Int)), SV.bool (x.2 == (2 : Int)), SV.bool false,
                 SV.ptr 3 bx 2, SV.str x.3, SV.bool !sEq x.3 (ByteArray.mk #[(103 : UInt8)]), SV.bool !sEq x.3 (ByteArray.mk #[(103 : UInt8)]), SV.bool false,
                 SV.ptr 3 bx 5, SV.str x.6, SV.bool !sEq x.6 (ByteArray.mk #[(99 : UInt8)]), SV.bool false, SV.raw (u 145), SV.raw (u 146),
                 SV.raw (u 147), SV.raw (u 148), SV.raw (u 149), SV.raw (u 150), SV.raw (u 151)]
                [pkA b ptE s, Ent.mk (Loc.sl ao cap) (SObj.vecL (3 : TypeId) 1 encI1 ls (0 : Int)),
                 Ent.mk (Loc.sl aA cA) (SObj.vecL (45 : TypeId) 6 encP6 A (PR.mk (0 : Int) (0 : Int) (ByteArray.mk #[]) false (0 : Int) (ByteArray.mk #[]) false false)),
                 Ent.mk (Loc.blk bx) (SObj.cells [SV.int IntKind.i64 x.1, SV.int IntKind.i64 x.2, SV.str x.3, SV.bool x.4, SV.int IntKind.i64 x.5, SV.str x.6] (45 : TypeId))])
     | false =>
      true = true ∧
       true = true ∧
        true = true ∧
         true = true ∧
          bx = bx ∧
           match !sEq x.3 (ByteArray.mk #[(103 : UInt8)]) with
           | true =>
            N
             [pkA b ptE s, Ent.mk (Loc.sl ao cap) (SObj.vecL (3 : TypeId) 1 encI1 ls (0 : Int)),
              Ent.mk (Loc.sl aA cA) (SObj.vecL (45 : TypeId) 6 encP6 A (PR.mk (0 : Int) (0 : Int) (ByteArray.mk #[]) false (0 : Int) (ByteArray.mk #[]) false false)),
              Ent.mk (Loc.blk bx) (SObj.cells [SV.int IntKind.i64 x.1, SV.int IntKind.i64 x.2, SV.str x.3, SV.bool x.4, SV.int IntKind.i64 x.5, SV.str x.6] (45 : TypeId))]
             (SV.bool false)
           | false =>
            bx = bx ∧
             match !sEq x.6 (ByteArray.mk #[(99 : UInt8)]) with
             | true =>
              N
               [pkA b ptE s, Ent.mk (Loc.sl ao cap) (SObj.vecL (3 : TypeId) 1 encI1 ls (0 : Int)),
                Ent.mk (Loc.sl aA cA) (SObj.vecL (45 : TypeId) 6 encP6 A (PR.mk (0 : Int) (0 : Int) (ByteArray.mk #[]) false (0 : Int) (ByteArray.mk #[]) false false)),
                Ent.mk (Loc.blk bx) (SObj.cells [SV.int IntKind.i64 x.1, SV.int IntKind.i64 x.2, SV.str x.3, SV.bool x.4, SV.int IntKind.i64 x.5, SV.str x.6] (45 : TypeId))]
               (SV.bool false)
             | false =>
              K
               (Frm.loop J0 ::
                Frm.blk 4 ::
                 frm [] (bodyOf Try.f6) [1, 1, 1, 1, 1, 1, 1, 1, 1, 1, 1, 1] [])
               (Sy.mk
                [SV.raw (u 0), SV.raw (u 1), SV.bool e, SV.raw (u 3), SV.raw (u 4), SV.raw (u 5), SV.raw (u 6), SV.int IntKind.i64 a,
                 SV.int IntKind.i64 c, SV.raw (u 9), SV.int IntKind.i64 (2 : Int), SV.raw (u 11), SV.vec 1 ao (List.length ls) cap, SV.raw (u 13),
                 SV.raw (u 14), SV.raw (u 15), SV.raw (u 16), SV.int IntKind.i64 n, SV.vec 2 aA (List.length A) cA,
                 SV.int IntKind.i64 (IntKind.wrap IntKind.i64 (i + (1 : Int))), SV.ptr 3 bx 0, SV.bool mine, SV.int IntKind.i64 k, SV.int IntKind.i64 (2 : Int),
                 SV.raw (u 24), SV.raw (u 25), SV.raw (u 26), SV.raw (u 27), SV.raw (u 28), SV.raw (u 29), SV.raw (u 30),
                 SV.raw (u 31), SV.raw (u 32), SV.raw (u 33), SV.raw (u 34), SV.raw (u 35), SV.raw (u 36), SV.raw (u 37),
                 SV.raw (u 38), SV.raw (u 39), SV.raw (u 40), SV.raw (u 41), SV.raw (u 42), SV.raw (u 43), SV.raw (u 44),
                 SV.raw (u 45), SV.raw (u 46), SV.raw (u 47), SV.raw (u 48), SV.raw (u 49), SV.raw (u 50), SV.raw (u 51),
                 SV.raw (u 52), SV.raw (u 53), SV.raw (u 54), SV.raw (u 55), SV.raw (u 56), SV.raw (u 57), SV.raw (u 58),
                 SV.raw (u 59), SV.raw (u 60), SV.raw (u 61), SV.raw (u 62), SV.raw (u 63), SV.raw (u 64), SV.raw (u 65),
                 SV.raw (u 66), SV.raw (u 67), SV.raw (u 68), SV.raw (u 69), SV.raw (u 70), SV.raw (u 71), SV.raw (u 72),
                 SV.raw (u 73), SV.raw (u 74), SV.raw (u 75), SV.raw (u 76), SV.raw (u 77), SV.raw (u 78), SV.raw (u 79),
                 SV.raw (u 80), SV.raw (u 81), SV.raw (u 82), SV.int IntKind.i64 i, SV.int IntKind.i64 (IntKind.wrap IntKind.i64 (i + (1 : Int))),
                 SV.raw (u 85), SV.raw (u 86), SV.raw (u 87), SV.raw (u 88), SV.raw (u 89), SV.raw (u 90), SV.raw (u 91),
                 SV.raw (u 92), SV.raw (u 93), SV.raw (u 94), SV.int IntKind.i64 k, SV.vec 1 ao (List.length ls) cap,
                 SV.int IntKind.i64 (↑(List.length ls) : Int), SV.bool false, SV.raw (u 99), SV.raw (u 100), SV.raw (u 101), SV.raw (u 102),
                 SV.raw (u 103), SV.raw (u 104), SV.raw (u 105), SV.raw (u 106), SV.raw (u 107), SV.raw (u 108),
                 SV.raw (u 109), SV.raw (u 110), SV.int IntKind.i64 (2 : Int), SV.bool false, SV.bool mine, SV.bool true, SV.ptr 3 bx 1,
                 SV.int IntKind.i64 x.2, SV.int IntKind.i64 (2 : Int), SV.bool (x.2 != (2 : Int)), SV.bool (x.2 != (2 : Int)), SV.bool false, SV.bool mine, SV.bool !mine,
                 SV.bool false, SV.raw (Value.tuple #[]), SV.raw (Value.tuple #[]), SV.raw (Value.tuple #[]), SV.raw (Value.tuple #[]), SV.raw (Value.tuple #[]),
                 SV.raw (Value.tuple #[]), SV.raw (Value.tuple #[]), SV.raw (Value.tuple #[]), SV.raw (Value.tuple #[]), SV.bool false, SV.bool false, SV.bool false,
                 SV.ptr 3 bx 2, SV.str x.3, SV.bool !sEq x.3 (ByteArray.mk #[(103 : UInt8)]), SV.bool !sEq x.3 (ByteArray.mk #[(103 : UInt8)]), SV.bool false,
                 SV.ptr 3 bx 5, SV.str x.6, SV.bool !sEq x.6 (ByteArray.mk #[(99 : UInt8)]), SV.bool false, SV.raw (u 145), SV.raw (u 146),
                 SV.raw (u 147), SV.raw (u 148), SV.raw (u 149), SV.raw (u 150), SV.raw (u 151)]
                [pkA b ptE s, Ent.mk (Loc.sl ao cap) (SObj.vecL (3 : TypeId) 1 encI1 ls (0 : Int)),
                 Ent.mk (Loc.sl aA cA) (SObj.vecL (45 : TypeId) 6 encP6 A (PR.mk (0 : Int) (0 : Int) (ByteArray.mk #[]) false (0 : Int) (ByteArray.mk #[]) false false)),
                 Ent.mk (Loc.blk bx) (SObj.cells [SV.int IntKind.i64 x.1, SV.int IntKind.i64 x.2, SV.str x.3, SV.bool x.4, SV.int IntKind.i64 x.5, SV.str x.6] (45 : TypeId))])
  | false =>
   match !mine with
   | true =>
    bx = bx ∧
     match x.2 == (1 : Int) with
     | true =>
      N
       [pkA b ptE s, Ent.mk (Loc.sl ao cap) (SObj.vecL (3 : TypeId) 1 encI1 ls (0 : Int)),
        Ent.mk (Loc.sl aA cA) (SObj.vecL (45 : TypeId) 6 encP6 A (PR.mk (0 : Int) (0 : Int) (ByteArray.mk #[]) false (0 : Int) (ByteArray.mk #[]) false false)),
        Ent.mk (Loc.blk bx) (SObj.cells [SV.int IntKind.i64 x.1, SV.int IntKind.i64 x.2, SV.str x.3, SV.bool x.4, SV.int IntKind.i64 x.5, SV.str x.6] (45 : TypeId))]
       (SV.bool false)
     | false =>
      bx = bx ∧
       match x.2 == (2 : Int) with
       | true =>
        N
         [pkA b ptE s, Ent.mk (Loc.sl ao cap) (SObj.vecL (3 : TypeId) 1 encI1 ls (0 : Int)),
          Ent.mk (Loc.sl aA cA) (SObj.vecL (45 : TypeId) 6 encP6 A (PR.mk (0 : Int) (0 : Int) (ByteArray.mk #[]) false (0 : Int) (ByteArray.mk #[]) false false)),
          Ent.mk (Loc.blk bx) (SObj.cells [SV.int IntKind.i64 x.1, SV.int IntKind.i64 x.2, SV.str x.3, SV.bool x.4, SV.int IntKind.i64 x.5, SV.str x.6] (45 : TypeId))]
         (SV.bool false)
       | false =>
        bx = bx ∧
         match !sEq x.3 (ByteArray.mk #[(103 : UInt8)]) with
         | true =>
          N
           [pkA b ptE s, Ent.mk (Loc.sl ao cap) (SObj.vecL (3 : TypeId) 1 encI1 ls (0 : Int)),
            Ent.mk (Loc.sl aA cA) (SObj.vecL (45 : TypeId) 6 encP6 A (PR.mk (0 : Int) (0 : Int) (ByteArray.mk #[]) false (0 : Int) (ByteArray.mk #[]) false false)),
            Ent.mk (Loc.blk bx) (SObj.cells [SV.int IntKind.i64 x.1, SV.int IntKind.i64 x.2, SV.str x.3, SV.bool x.4, SV.int IntKind.i64 x.5, SV.str x.6] (45 : TypeId))]
           (SV.bool false)
         | false =>
          bx = bx ∧
           match !sEq x.6 (ByteArray.mk #[(99 : UInt8)]) with
           | true =>
            N
             [pkA b ptE s, Ent.mk (Loc.sl ao cap) (SObj.vecL (3 : TypeId) 1 encI1 ls (0 : Int)),
              Ent.mk (Loc.sl aA cA) (SObj.vecL (45 : TypeId) 6 encP6 A (PR.mk (0 : Int) (0 : Int) (ByteArray.mk #[]) false (0 : Int) (ByteArray.mk #[]) false false)),
              Ent.mk (Loc.blk bx) (SObj.cells [SV.int IntKind.i64 x.1, SV.int IntKind.i64 x.2, SV.str x.3, SV.bool x.4, SV.int IntKind.i64 x.5, SV.str x.6] (45 : TypeId))]
             (SV.bool false)
           | false =>
            K
             (Frm.loop J0 ::
              Frm.blk 4 ::
               frm [] (bodyOf Try.f6) [1, 1, 1, 1, 1, 1, 1, 1, 1, 1, 1, 1] [])
             (Sy.mk
              [SV.raw (u 0), SV.raw (u 1), SV.bool e, SV.raw (u 3), SV.raw (u 4), SV.raw (u 5), SV.raw (u 6), SV.int IntKind.i64 a,
               SV.int IntKind.i64 c, SV.raw (u 9), SV.int IntKind.i64 (2 : Int), SV.raw (u 11), SV.vec 1 ao (List.length ls) cap, SV.raw (u 13),
               SV.raw (u 14), SV.raw (u 15), SV.raw (u 16), SV.int IntKind.i64 n, SV.vec 2 aA (List.length A) cA,
               SV.int IntKind.i64 (IntKind.wrap IntKind.i64 (i + (1 : Int))), SV.ptr 3 bx 0, SV.bool mine, SV.int IntKind.i64 k, SV.int IntKind.i64 (2 : Int),
               SV.raw (u 24), SV.raw (u 25), SV.raw (u 26), SV.raw (u 27), SV.raw (u 28), SV.raw (u 29), SV.raw (u 30),
               SV.raw (u 31), SV.raw (u 32), SV.raw (u 33), SV.raw (u 34), SV.raw (u 35), SV.raw (u 36), SV.raw (u 37),
               SV.raw (u 38), SV.raw (u 39), SV.raw (u 40), SV.raw (u 41), SV.raw (u 42), SV.raw (u 43), SV.raw (u 44),
               SV.raw (u 45), SV.raw (u 46), SV.raw (u 47), SV.raw (u 48), SV.raw (u 49), SV.raw (u 50), SV.raw (u 51),
               SV.raw (u 52), SV.raw (u 53), SV.raw (u 54), SV.raw (u 55), SV.raw (u 56), SV.raw (u 57), SV.raw (u 58),
               SV.raw (u 59), SV.raw (u 60), SV.raw (u 61), SV.raw (u 62), SV.raw (u 63), SV.raw (u 64), SV.raw (u 65),
               SV.raw (u 66), SV.raw (u 67), SV.raw (u 68), SV.raw (u 69), SV.raw (u 70), SV.raw (u 71), SV.raw (u 72),
               SV.raw (u 73), SV.raw (u 74), SV.raw (u 75), SV.raw (u 76), SV.raw (u 77), SV.raw (u 78), SV.raw (u 79),
               SV.raw (u 80), SV.raw (u 81), SV.raw (u 82), SV.int IntKind.i64 i, SV.int IntKind.i64 (IntKind.wrap IntKind.i64 (i + (1 : Int))),
               SV.raw (u 85), SV.raw (u 86), SV.raw (u 87), SV.raw (u 88), SV.raw (u 89), SV.raw (u 90), SV.raw (u 91),
               SV.raw (u 92), SV.raw (u 93), SV.raw (u 94), SV.int IntKind.i64 k, SV.vec 1 ao (List.length ls) cap,
               SV.int IntKind.i64 (↑(List.length ls) : Int), SV.bool false, SV.raw (u 99), SV.raw (u 100), SV.raw (u 101), SV.raw (u 102),
               SV.raw (u 103), SV.raw (u 104), SV.raw (u 105), SV.raw (u 106), SV.raw (u 107), SV.raw (u 108), SV.raw (u 109),
               SV.raw (u 110), SV.int IntKind.i64 (2 : Int), SV.bool false, SV.bool mine, SV.bool false, SV.raw (Value.tuple #[]), SV.raw (Value.tuple #[]),
               SV.raw (Value.tuple #[]), SV.raw (Value.tuple #[]), SV.bool false, SV.bool false, SV.bool mine, SV.bool !mine, SV.bool true, SV.ptr 3 bx 1,
               SV.int IntKind.i64 x.2, SV.bool (x.2 == (1 : Int)), SV.bool false, SV.ptr 3 bx 1, SV.int IntKind.i64 x.2, SV.int IntKind.i64 (2 : Int),
               SV.bool (x.2 == (2 : Int)), SV.bool (x.2 == (2 : Int)), SV.bool (x.2 == (2 : Int)), SV.bool (x.2 == (2 : Int)), SV.bool false, SV.ptr 3 bx 2, SV.str x.3,
               SV.bool !sEq x.3 (ByteArray.mk #[(103 : UInt8)]), SV.bool !sEq x.3 (ByteArray.mk #[(103 : UInt8)]), SV.bool false, SV.ptr 3 bx 5, SV.str x.6,
               SV.bool !sEq x.6 (ByteArray.mk #[(99 : UInt8)]), SV.bool false, SV.raw (u 145), SV.raw (u 146), SV.raw (u 147), SV.raw (u 148),
               SV.raw (u 149), SV.raw (u 150), SV.raw (u 151)]
              [pkA b ptE s, Ent.mk (Loc.sl ao cap) (SObj.vecL (3 : TypeId) 1 encI1 ls (0 : Int)),
               Ent.mk (Loc.sl aA cA) (SObj.vecL (45 : TypeId) 6 encP6 A (PR.mk (0 : Int) (0 : Int) (ByteArray.mk #[]) false (0 : Int) (ByteArray.mk #[]) false false)),
               Ent.mk (Loc.blk bx) (SObj.cells [SV.int IntKind.i64 x.1, SV.int IntKind.i64 x.2, SV.str x.3, SV.bool x.4, SV.int IntKind.i64 x.5, SV.str x.6] (45 : TypeId))])
   | false =>
    true = true ∧
     true = true ∧
      true = true ∧
       true = true ∧
        bx = bx ∧
         match !sEq x.3 (ByteArray.mk #[(103 : UInt8)]) with
         | true =>
          N
           [pkA b ptE s, Ent.mk (Loc.sl ao cap) (SObj.vecL (3 : TypeId) 1 encI1 ls (0 : Int)),
            Ent.mk (Loc.sl aA cA) (SObj.vecL (45 : TypeId) 6 encP6 A (PR.mk (0 : Int) (0 : Int) (ByteArray.mk #[]) false (0 : Int) (ByteArray.mk #[]) false false)),
            Ent.mk (Loc.blk bx) (SObj.cells [SV.int IntKind.i64 x.1, SV.int IntKind.i64 x.2, SV.str x.3, SV.bool x.4, SV.int IntKind.i64 x.5, SV.str x.6] (45 : TypeId))]
           (SV.bool false)
         | false =>
          bx = bx ∧
           match !sEq x.6 (ByteArray.mk #[(99 : UInt8)]) with
           | true =>
            N
             [pkA b ptE s, Ent.mk (Loc.sl ao cap) (SObj.vecL (3 : TypeId) 1 encI1 ls (0 : Int)),
              Ent.mk (Loc.sl aA cA) (SObj.vecL (45 : TypeId) 6 encP6 A (PR.mk (0 : Int) (0 : Int) (ByteArray.mk #[]) false (0 : Int) (ByteArray.mk #[]) false false)),
              Ent.mk (Loc.blk bx) (SObj.cells [SV.int IntKind.i64 x.1, SV.int IntKind.i64 x.2, SV.str x.3, SV.bool x.4, SV.int IntKind.i64 x.5, SV.str x.6] (45 : TypeId))]
             (SV.bool false)
           | false =>
            K
             (Frm.loop J0 ::
              Frm.blk 4 ::
               frm [] (bodyOf Try.f6) [1, 1, 1, 1, 1, 1, 1, 1, 1, 1, 1, 1] [])
             (Sy.mk
              [SV.raw (u 0), SV.raw (u 1), SV.bool e, SV.raw (u 3), SV.raw (u 4), SV.raw (u 5), SV.raw (u 6), SV.int IntKind.i64 a,
               SV.int IntKind.i64 c, SV.raw (u 9), SV.int IntKind.i64 (2 : Int), SV.raw (u 11), SV.vec 1 ao (List.length ls) cap, SV.raw (u 13),
               SV.raw (u 14), SV.raw (u 15), SV.raw (u 16), SV.int IntKind.i64 n, SV.vec 2 aA (List.length A) cA,
               SV.int IntKind.i64 (IntKind.wrap IntKind.i64 (i + (1 : Int))), SV.ptr 3 bx 0, SV.bool mine, SV.int IntKind.i64 k, SV.int IntKind.i64 (2 : Int),
               SV.raw (u 24), SV.raw (u 25), SV.raw (u 26), SV.raw (u 27), SV.raw (u 28), SV.raw (u 29), SV.raw (u 30),
               SV.raw (u 31), SV.raw (u 32), SV.raw (u 33), SV.raw (u 34), SV.raw (u 35), SV.raw (u 36), SV.raw (u 37),
               SV.raw (u 38), SV.raw (u 39), SV.raw (u 40), SV.raw (u 41), SV.raw (u 42), SV.raw (u 43), SV.raw (u 44),
               SV.raw (u 45), SV.raw (u 46), SV.raw (u 47), SV.raw (u 48), SV.raw (u 49), SV.raw (u 50), SV.raw (u 51),
               SV.raw (u 52), SV.raw (u 53), SV.raw (u 54), SV.raw (u 55), SV.raw (u 56), SV.raw (u 57), SV.raw (u 58),
               SV.raw (u 59), SV.raw (u 60), SV.raw (u 61), SV.raw (u 62), SV.raw (u 63), SV.raw (u 64), SV.raw (u 65),
               SV.raw (u 66), SV.raw (u 67), SV.raw (u 68), SV.raw (u 69), SV.raw (u 70), SV.raw (u 71), SV.raw (u 72),
               SV.raw (u 73), SV.raw (u 74), SV.raw (u 75), SV.raw (u 76), SV.raw (u 77), SV.raw (u 78), SV.raw (u 79),
               SV.raw (u 80), SV.raw (u 81), SV.raw (u 82), SV.int IntKind.i64 i, SV.int IntKind.i64 (IntKind.wrap IntKind.i64 (i + (1 : Int))),
               SV.raw (u 85), SV.raw (u 86), SV.raw (u 87), SV.raw (u 88), SV.raw (u 89), SV.raw (u 90), SV.raw (u 91),
               SV.raw (u 92), SV.raw (u 93), SV.raw (u 94), SV.int IntKind.i64 k, SV.vec 1 ao (List.length ls) cap,
               SV.int IntKind.i64 (↑(List.length ls) : Int), SV.bool false, SV.raw (u 99), SV.raw (u 100), SV.raw (u 101), SV.raw (u 102),
               SV.raw (u 103), SV.raw (u 104), SV.raw (u 105), SV.raw (u 106), SV.raw (u 107), SV.raw (u 108), SV.raw (u 109),
               SV.raw (u 110), SV.int IntKind.i64 (2 : Int), SV.bool false, SV.bool mine, SV.bool false, SV.raw (Value.tuple #[]), SV.raw (Value.tuple #[]),
               SV.raw (Value.tuple #[]), SV.raw (Value.tuple #[]), SV.bool false, SV.bool false, SV.bool mine, SV.bool !mine, SV.bool false, SV.raw (Value.tuple #[]),
               SV.raw (Value.tuple #[]), SV.raw (Value.tuple #[]), SV.raw (Value.tuple #[]), SV.raw (Value.tuple #[]), SV.raw (Value.tuple #[]), SV.raw (Value.tuple #[]),
               SV.raw (Value.tuple #[]), SV.raw (Value.tuple #[]), SV.bool false, SV.bool false, SV.bool false, SV.ptr 3 bx 2, SV.str x.3,
               SV.bool !sEq x.3 (ByteArray.mk #[(103 : UInt8)]), SV.bool !sEq x.3 (ByteArray.mk #[(103 : UInt8)]), SV.bool false, SV.ptr 3 bx 5, SV.str x.6,
               SV.bool !sEq x.6 (ByteArray.mk #[(99 : UInt8)]), SV.bool false, SV.raw (u 145), SV.raw (u 146), SV.raw (u 147), SV.raw (u 148),
               SV.raw (u 149), SV.raw (u 150), SV.raw (u 151)]
              [pkA b ptE s, Ent.mk (Loc.sl ao cap) (SObj.vecL (3 : TypeId) 1 encI1 ls (0 : Int)),
               Ent.mk (Loc.sl aA cA) (SObj.vecL (45 : TypeId) 6 encP6 A (PR.mk (0 : Int) (0 : Int) (ByteArray.mk #[]) false (0 : Int) (ByteArray.mk #[]) false false)),
               Ent.mk (Loc.blk bx) (SObj.cells [SV.int IntKind.i64 x.1, SV.int IntKind.i64 x.2, SV.str x.3, SV.bool x.4, SV.int IntKind.i64 x.5, SV.str x.6] (45 : TypeId))])) := by kernel_rfl
end Go.Proofs.Ytihajdkipkfiiaa
