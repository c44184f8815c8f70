import Derived.Test.YtihajdkipkfiiaaGoC
import Derived.Test.YtihajdkipkfiiaaTab
namespace Go.Proofs.Ytihajdkipkfiiaa
set_option linter.unusedVariables false
open Go Go.RowKit
set_option maxHeartbeats 0
set_option maxRecDepth 100000
set_option maxRecDepth 100000

theorem go_l1 (K : List Frm → Sy → Prop) (N : List Ent → SV → Prop) (J : Act → World → Prop) (ao : Option Addr) (cap : Nat) (bs : List Int) (b b1 d : Nat) (s : Grp) (arr : List Int) (i : Nat) (u : Nat → Value) : (run Try.prog goT false [17] K (retP Try.prog Try.f3.results.toList N) 900 (frm [J] (bodyOf Try.f3) [1, 1, 1, 1, 1, 1, 1, 0, 1, 0, 0] []) ⟨mkT u 131 0 [(0, .vec 0 ao bs.length cap), (3, .ptr 1 b 0), (4, .ptr 2 b1 0), (6, .ptr 3 d 0), (7, .int .i64 (i : Int))], [⟨.sl ao cap, .roL 1 encU8 bs 0⟩, ⟨.sl (some ⟨b, 0, none⟩) 4, .vecL 24 1 encS names4 ByteArray.empty⟩, pkA b1 grpE s, ⟨.sl (some ⟨d, 0, none⟩) 10, .vecL 29 1 encI1 arr 0⟩]⟩) = (
match decide ((↑i : Int) < (↑(List.length bs) : Int)) with
| true =>
 (ao = ao ∧ cap = cap ∧ List.length bs = List.length bs ∧ (0 : Int) ≤ (↑i : Int) ∧ (↑i : Int) < (↑(List.length bs) : Int)) ∧
  (Addr.blkD ao = Addr.blkD ao ∧ Addr.offD ao = Addr.offD ao ∧ 1 = 1 ∧ Int.toNat (↑i : Int) < List.length bs) ∧
   (8 : Int) ≠ (0 : Int) ∧
    (ao = ao ∧ cap = cap ∧ List.length bs = List.length bs ∧ (0 : Int) ≤ (↑i : Int) ∧ (↑i : Int) < (↑(List.length bs) : Int)) ∧
     (Addr.blkD ao = Addr.blkD ao ∧ Addr.offD ao = Addr.offD ao ∧ 1 = 1 ∧ Int.toNat (↑i : Int) < List.length bs) ∧
      (8 : Int) ≠ (0 : Int) ∧
       (4 : Int) ≠ (0 : Int) ∧
        K (frmR [J] (bodyOf Try.f3) 17)
         (Sy.mk
          [SV.vec 0 ao (List.length bs) cap, SV.raw (u 1), SV.raw (u 2), SV.ptr 1 b 0, SV.ptr 2 b1 0, SV.raw (u 5),
           SV.ptr 3 d 0, SV.int IntKind.i64 (↑i : Int),
           SV.int IntKind.i64 (IntKind.wrap IntKind.i64 (IntKind.wrap IntKind.i64 (Int.tmod (List.getD bs (Int.toNat (↑i : Int)) (0 : Int)) (8 : Int)) + (2 : Int))),
           SV.int IntKind.i64 (IntKind.wrap IntKind.i64 (Int.tmod (IntKind.wrap IntKind.u8 (Int.tdiv (List.getD bs (Int.toNat (↑i : Int)) (0 : Int)) (8 : Int))) (4 : Int))),
           SV.raw (u 10), SV.raw (u 11), SV.raw (u 12), SV.raw (u 13), SV.raw (u 14), SV.raw (u 15), SV.raw (u 16),
           SV.raw (u 17), SV.raw (u 18), SV.raw (u 19), SV.raw (u 20), SV.raw (u 21), SV.raw (u 22), SV.raw (u 23),
           SV.raw (u 24), SV.raw (u 25), SV.raw (u 26), SV.raw (u 27), SV.raw (u 28), SV.raw (u 29), SV.raw (u 30),
           SV.raw (u 31), SV.raw (u 32), SV.int IntKind.i64 (↑i : Int), SV.vec 0 ao (List.length bs) cap, SV.int IntKind.i64 (↑(List.length bs) : Int), SV.bool true,
           SV.raw (u 37), SV.raw (u 38), SV.vec 0 ao (List.length bs) cap, SV.int IntKind.i64 (↑i : Int),
           SV.eptr 0 (Addr.blkD ao) (Addr.offD ao) 1 (Int.toNat (↑i : Int)) 0, SV.int IntKind.u8 (List.getD bs (Int.toNat (↑i : Int)) (0 : Int)),
           SV.int IntKind.u8 (Int.tmod (List.getD bs (Int.toNat (↑i : Int)) (0 : Int)) (8 : Int)),
           SV.int IntKind.i64 (IntKind.wrap IntKind.i64 (Int.tmod (List.getD bs (Int.toNat (↑i : Int)) (0 : Int)) (8 : Int))),
           SV.int IntKind.i64 (IntKind.wrap IntKind.i64 (IntKind.wrap IntKind.i64 (Int.tmod (List.getD bs (Int.toNat (↑i : Int)) (0 : Int)) (8 : Int)) + (2 : Int))),
           SV.vec 0 ao (List.length bs) cap, SV.int IntKind.i64 (↑i : Int), SV.eptr 0 (Addr.blkD ao) (Addr.offD ao) 1 (Int.toNat (↑i : Int)) 0,
           SV.int IntKind.u8 (List.getD bs (Int.toNat (↑i : Int)) (0 : Int)),
           SV.int IntKind.u8 (IntKind.wrap IntKind.u8 (Int.tdiv (List.getD bs (Int.toNat (↑i : Int)) (0 : Int)) (8 : Int))),
           SV.int IntKind.u8 (Int.tmod (IntKind.wrap IntKind.u8 (Int.tdiv (List.getD bs (Int.toNat (↑i : Int)) (0 : Int)) (8 : Int))) (4 : Int)),
           SV.int IntKind.i64 (IntKind.wrap IntKind.i64 (Int.tmod (IntKind.wrap IntKind.u8 (Int.tdiv (List.getD bs (Int.toNat (↑i : Int)) (0 : Int)) (8 : Int))) (4 : Int))),
           SV.raw (u 53), SV.raw (u 54), SV.raw (u 55), SV.raw (u 56), SV.raw (u 57), SV.raw (u 58), SV.raw (u 59),
           SV.raw (u 60), SV.raw (u 61), SV.raw (u 62), SV.raw (u 63), SV.raw (u 64), SV.raw (u 65), SV.raw (u 66),
           SV.raw (u 67), SV.raw (u 68), SV.raw (u 69), SV.raw (u 70), SV.raw (u 71), SV.raw (u 72), SV.raw (u 73),
           SV.raw (u 74), SV.raw (u 75), SV.raw (u 76), SV.raw (u 77), SV.raw (u 78), SV.raw (u 79), SV.raw (u 80),
           SV.raw (u 81), SV.raw (u 82), SV.raw (u 83), SV.raw (u 84), SV.raw (u 85), SV.raw (u 86), SV.raw (u 87),
           SV.raw (u 88), SV.raw (u 89), SV.raw (u 90), SV.raw (u 91), SV.raw (u 92), SV.raw (u 93), SV.raw (u 94),
           SV.raw (u 95), SV.raw (u 96), SV.raw (u 97), SV.raw (u 98), SV.raw (u 99), SV.raw (u 100), SV.raw (u 101),
           SV.raw (u 102), SV.raw (u 103), SV.raw (u 104), SV.raw (u 105), SV.raw (u 106), SV.raw (u 107), SV.raw (u 108),
           SV.raw (u 109), SV.raw (u 110), SV.raw (u 111), SV.raw (u 112), SV.raw (u 113), SV.raw (u 114), SV.raw (u 115),
           SV.raw (u 116), SV.raw (u 117), SV.raw (u 118), SV.raw (u 119), SV.raw (u 120), SV.raw (u 121), SV.raw (u 122),
           SV.raw (u 123), SV.raw (u 124), SV.raw (u 125), SV.raw (u 126), SV.raw (u 127), SV.raw (u 128), SV.raw (u 129),
           SV.raw (u 130)]
          [Ent.mk (Loc.sl ao cap) (SObj.roL 1 encU8 bs (0 : Int)),
           Ent.mk (Loc.sl (some (Addr.mk b 0 (@none Nat))) 4)
            (SObj.vecL (24 : TypeId) 1 encS [ByteArray.mk #[(97 : UInt8)], ByteArray.mk #[(98 : UInt8)], ByteArray.mk #[(99 : UInt8)], ByteArray.mk #[(100 : UInt8)]]
             ByteArray.empty),
           pkA b1 grpE s, Ent.mk (Loc.sl (some (Addr.mk d 0 (@none Nat))) 10) (SObj.vecL (29 : TypeId) 1 encI1 arr (0 : Int))])
| false =>
 K (frm [] (bodyOf Try.f3) [1, 1, 1, 1, 1, 1, 1, 1, 0, 1, 0] [])
  (Sy.mk
   [SV.vec 0 ao (List.length bs) cap, SV.raw (u 1), SV.raw (u 2), SV.ptr 1 b 0, SV.ptr 2 b1 0, SV.raw (u 5),
    SV.ptr 3 d 0, SV.int IntKind.i64 (↑i : Int), SV.raw (u 8), SV.raw (u 9), SV.raw (u 10), SV.raw (u 11), SV.raw (u 12),
    SV.int IntKind.i64 (0 : Int), SV.raw (u 14), SV.raw (u 15), SV.raw (u 16), SV.raw (u 17), SV.raw (u 18), SV.raw (u 19), SV.raw (u 20),
    SV.raw (u 21), SV.raw (u 22), SV.raw (u 23), SV.raw (u 24), SV.raw (u 25), SV.raw (u 26), SV.raw (u 27), SV.raw (u 28),
    SV.raw (u 29), SV.raw (u 30), SV.raw (u 31), SV.raw (u 32), SV.int IntKind.i64 (↑i : Int), SV.vec 0 ao (List.length bs) cap,
    SV.int IntKind.i64 (↑(List.length bs) : Int), SV.bool false, SV.raw (u 37), SV.raw (u 38), SV.raw (u 39), SV.raw (u 40), SV.raw (u 41),
    SV.raw (u 42), SV.raw (u 43), SV.raw (u 44), SV.raw (u 45), SV.raw (u 46), SV.raw (u 47), SV.raw (u 48), SV.raw (u 49),
    SV.raw (u 50), SV.raw (u 51), SV.raw (u 52), SV.raw (u 53), SV.raw (u 54), SV.raw (u 55), SV.raw (u 56), SV.raw (u 57),
    SV.raw (u 58), SV.raw (u 59), SV.raw (u 60), SV.raw (u 61), SV.raw (u 62), SV.raw (u 63), SV.raw (u 64), SV.raw (u 65),
    SV.raw (u 66), SV.raw (u 67), SV.raw (u 68), SV.raw (u 69), SV.raw (u 70), SV.raw (u 71), SV.raw (u 72), SV.raw (u 73),
    SV.raw (u 74), SV.raw (u 75), SV.raw (u 76), SV.raw (u 77), SV.raw (u 78), SV.raw (u 79), SV.raw (u 80), SV.raw (u 81),
    SV.raw (u 82), SV.raw (u 83), SV.raw (u 84), SV.raw (u 85), SV.raw (u 86), SV.raw (u 87), SV.raw (u 88), SV.raw (u 89),
    SV.raw (u 90), SV.raw (u 91), SV.raw (u 92), SV.raw (u 93), SV.raw (u 94), SV.raw (u 95), SV.raw (u 96), SV.raw (u 97),
    SV.raw (u 98), SV.raw (u 99), SV.raw (u 100), SV.raw (u 101), SV.raw (u 102), SV.raw (u 103), SV.raw (u 104), SV.raw (u 105),
    SV.raw (u 106), SV.raw (u 107), SV.raw (u 108), SV.raw (u 109), SV.raw (u 110), SV.raw (u 111), SV.raw (u 112), SV.raw (u 113),
    SV.raw (u 114), SV.raw (u 115), SV.raw (u 116), SV.raw (u 117), SV.raw (u 118), SV.raw (u 119), SV.raw (u 120), SV.raw (u 121),
    SV.raw (u 122), SV.raw (u 123), SV.raw (u 124), SV.raw (u 125), SV.raw (u 126), SV.raw (u 127), SV.raw (u 128), SV.raw (u 129),
    SV.raw (u 130)]
   [Ent.mk (Loc.sl ao cap) (SObj.roL 1 encU8 bs (0 : Int)),
    Ent.mk (Loc.sl (some (Addr.mk b 0 (@none Nat))) 4)
     (SObj.vecL (24 : TypeId) 1 encS [ByteArray.mk #[(97 : UInt8)], ByteArray.mk #[(98 : UInt8)], ByteArray.mk #[(99 : UInt8)], ByteArray.mk #[(100 : UInt8)]] ByteArray.empty),
    pkA b1 grpE s, Ent.mk (Loc.sl (some (Addr.mk d 0 (@none Nat))) 10) (SObj.vecL (29 : TypeId) 1 encI1 arr (0 : Int))])) := by kernel_rfl


theorem go_17 (K : List Frm → Sy → Prop) (N : List Ent → SV → Prop) (J0 : Act → World → Prop) (ao : Option Addr) (cap : Nat) (bs : List Int) (b b1 d : Nat) (s : Grp) (arr : List Int) (i : Nat) (p n : Nat) (u : Nat → Value) : (run Try.prog goT false [24] K (retP Try.prog Try.f3.results.toList N) 1500 (frmR [J0] (bodyOf Try.f3) 17) ⟨mkT u 131 0 [(0, .vec 0 ao bs.length cap), (3, .ptr 1 b 0), (4, .ptr 2 b1 0), (6, .ptr 3 d 0), (7, .int .i64 (i : Int)), (8, .int .i64 (p : Int)), (9, .int .i64 (n : Int))], [⟨.sl ao cap, .roL 1 encU8 bs 0⟩, ⟨.sl (some ⟨b, 0, none⟩) 4, .vecL 24 1 encS names4 ByteArray.empty⟩, pkA b1 grpE s, ⟨.sl (some ⟨d, 0, none⟩) 10, .vecL 29 1 encI1 arr 0⟩]⟩) = (
(ao = ao ∧ cap = cap ∧ List.length bs = List.length bs ∧ (0 : Int) ≤ (↑i : Int) ∧ (↑i : Int) < (↑(List.length bs) : Int)) ∧
 (Addr.blkD ao = Addr.blkD ao ∧ Addr.offD ao = Addr.offD ao ∧ 1 = 1 ∧ Int.toNat (↑i : Int) < List.length bs) ∧
  (32 : Int) ≠ (0 : Int) ∧
   (4 : Int) ≠ (0 : Int) ∧
    match Int.tmod (IntKind.wrap IntKind.u8 (Int.tdiv (List.getD bs (Int.toNat (↑i : Int)) (0 : Int)) (32 : Int))) (4 : Int) == (0 : Int) with
    | true =>
     (true = true ∧
      b1 = b1 ∧
       ∃ (h : Grp = Grp),
        AdtIs (fun (s : Grp) (b : Nat) ↦ packs (grpE s b)) grpE ∧
         gOk s (↑p : Int) ∧
          ∀ (ao_1 : Option Addr) (cap_1 : Nat),
           (some (Addr.mk d 0 (@none Nat)) = some (Addr.mk d 0 (@none Nat)) ∧
            0 = 0 ∧ 10 = List.length arr ∧ (0 : Int) ≤ (↑p : Int) ∧ (↑p : Int) < (↑10 : Int)) ∧
            (d = Addr.blkD (some (Addr.mk d 0 (@none Nat))) ∧
             0 = Addr.offD (some (Addr.mk d 0 (@none Nat))) ∧ 1 = 1 ∧ Int.toNat (↑p : Int) < List.length arr) ∧
             match !(gGone s (↑p : Int) ao_1 cap_1).2 == decide (List.getD arr (Int.toNat (↑p : Int)) (0 : Int) > (0 : Int)) with
             | true =>
              N
               [Ent.mk (Loc.sl ao cap) (SObj.roL 1 encU8 bs (0 : Int)),
                Ent.mk (Loc.sl (some (Addr.mk b 0 (@none Nat))) 4)
                 (SObj.vecL (24 : TypeId) 1 encS [ByteArray.mk #[(97 : UInt8)], ByteArray.mk #[(98 : UInt8)], ByteArray.mk #[(99 : UInt8)], ByteArray.mk #[(100 : UInt8)]]
                  ByteArray.empty),
                pkA b1 grpE (gGone s (↑p : Int) ao_1 cap_1).1,
                Ent.mk (Loc.sl (some (Addr.mk d 0 (@none Nat))) 10) (SObj.vecL (29 : TypeId) 1 encI1 arr (0 : Int))]
               (SV.bool false)
             | false =>
              (some (Addr.mk d 0 (@none Nat)) = some (Addr.mk d 0 (@none Nat)) ∧
               0 = 0 ∧ 10 = List.length arr ∧ (0 : Int) ≤ (↑p : Int) ∧ (↑p : Int) < (↑10 : Int)) ∧
               (d = Addr.blkD (some (Addr.mk d 0 (@none Nat))) ∧
                0 = Addr.offD (some (Addr.mk d 0 (@none Nat))) ∧
                 1 = 1 ∧ Int.toNat (↑p : Int) < List.length arr ∧ true = true ∧ 1 = 1 ∧ 1 ≤ 1) ∧
                ∃ (e : Int),
                 [SV.int IntKind.i64 e] = [SV.int IntKind.i64 (0 : Int)] ∧
                  K (frmR [J0] (bodyOf Try.f3) 24)
                   (Sy.mk
                    [SV.vec 0 ao (List.length bs) cap, SV.raw (u 1), SV.raw (u 2), SV.ptr 1 b 0, SV.ptr 2 b1 0,
                     SV.raw (u 5), SV.ptr 3 d 0, SV.int IntKind.i64 (↑i : Int), SV.int IntKind.i64 (↑p : Int), SV.int IntKind.i64 (↑n : Int),
                     SV.raw (u 10), SV.raw (u 11), SV.raw (u 12), SV.raw (u 13), SV.raw (u 14), SV.raw (u 15),
                     SV.raw (u 16), SV.raw (u 17), SV.raw (u 18), SV.raw (u 19), SV.raw (u 20), SV.raw (u 21),
                     SV.raw (u 22), SV.raw (u 23), SV.raw (u 24), SV.raw (u 25), SV.raw (u 26), SV.raw (u 27),
                     SV.raw (u 28), SV.raw (u 29), SV.raw (u 30), SV.raw (u 31), SV.raw (u 32), SV.raw (u 33),
                     SV.raw (u 34), SV.raw (u 35), SV.raw (u 36), SV.raw (u 37), SV.raw (u 38), SV.raw (u 39),
                     SV.raw (u 40), SV.raw (u 41), SV.raw (u 42), SV.raw (u 43), SV.raw (u 44), SV.raw (u 45),
                     SV.raw (u 46), SV.raw (u 47), SV.raw (u 48), SV.raw (u 49), SV.raw (u 50), SV.raw (u 51),
                     SV.raw (u 52), SV.vec 0 ao (List.length bs) cap, SV.int IntKind.i64 (↑i : Int),
                     SV.eptr 0 (Addr.blkD ao) (Addr.offD ao) 1 (Int.toNat (↑i : Int)) 0,
                     SV.int IntKind.u8 (List.getD bs (Int.toNat (↑i : Int)) (0 : Int)),
                     SV.int IntKind.u8 (IntKind.wrap IntKind.u8 (Int.tdiv (List.getD bs (Int.toNat (↑i : Int)) (0 : Int)) (32 : Int))),
                     SV.int IntKind.u8 (Int.tmod (IntKind.wrap IntKind.u8 (Int.tdiv (List.getD bs (Int.toNat (↑i : Int)) (0 : Int)) (32 : Int))) (4 : Int)), SV.bool true,
                     SV.ptr 2 b1 0, SV.int IntKind.i64 (↑p : Int), SV.bool (gGone s (↑p : Int) ao_1 cap_1).2, SV.int IntKind.i64 (↑p : Int),
                     SV.eptr 3 d 0 1 (Int.toNat (↑p : Int)) 0, SV.int IntKind.i64 (List.getD arr (Int.toNat (↑p : Int)) (0 : Int)),
                     SV.bool (decide (List.getD arr (Int.toNat (↑p : Int)) (0 : Int) > (0 : Int))), SV.bool false, SV.int IntKind.i64 (↑p : Int),
                     SV.eptr 3 d 0 1 (Int.toNat (↑p : Int)) 0, SV.raw (u 70), SV.raw (u 71), SV.raw (u 72),
                     SV.raw (u 73), SV.raw (u 74), SV.raw (u 75), SV.raw (u 76), SV.raw (u 77), SV.raw (u 78),
                     SV.raw (u 79), SV.raw (u 80), SV.raw (u 81), SV.raw (u 82), SV.raw (u 83), SV.raw (u 84),
                     SV.raw (u 85), SV.raw (u 86), SV.raw (u 87), SV.raw (u 88), SV.raw (u 89), SV.raw (u 90),
                     SV.raw (u 91), SV.raw (u 92), SV.raw (u 93), SV.raw (u 94), SV.raw (u 95), SV.raw (u 96),
                     SV.raw (u 97), SV.raw (u 98), SV.raw (u 99), SV.raw (u 100), SV.raw (u 101), SV.raw (u 102),
                     SV.raw (u 103), SV.raw (u 104), SV.raw (u 105), SV.raw (u 106), SV.raw (u 107), SV.raw (u 108),
                     SV.raw (u 109), SV.raw (u 110), SV.raw (u 111), SV.raw (u 112), SV.raw (u 113), SV.raw (u 114),
                     SV.raw (u 115), SV.raw (u 116), SV.raw (u 117), SV.raw (u 118), SV.raw (u 119), SV.raw (u 120),
                     SV.raw (u 121), SV.raw (u 122), SV.raw (u 123), SV.raw (u 124), SV.raw (u 125), SV.raw (u 126),
                     SV.raw (u 127), SV.raw (u 128), SV.raw (u 129), SV.raw (u 130)]
                    [Ent.mk (Loc.sl ao cap) (SObj.roL 1 encU8 bs (0 : Int)),
                     Ent.mk (Loc.sl (some (Addr.mk b 0 (@none Nat))) 4)
                      (SObj.vecL (24 : TypeId) 1 encS
                       [ByteArray.mk #[(97 : UInt8)], ByteArray.mk #[(98 : UInt8)], ByteArray.mk #[(99 : UInt8)], ByteArray.mk #[(100 : UInt8)]] ByteArray.empty),
                     pkA b1 grpE (gGone s (↑p : Int) ao_1 cap_1).1,
                     Ent.mk (Loc.sl (some (Addr.mk d 0 (@none Nat))) 10)
                      (SObj.vecL (29 : TypeId) 1 encI1 (List.set arr (Int.toNat (↑p : Int)) e) (0 : Int))])) ∧
      (some (Addr.mk d 0 (@none Nat)) = some (Addr.mk d 0 (@none Nat)) ∧
       0 = 0 ∧ 10 = List.length arr ∧ (0 : Int) ≤ (↑p : Int) ∧ (↑p : Int) < (↑10 : Int)) ∧
       (true = true ∧
        b1 = b1 ∧
         ∃ (h : Grp = Grp),
          AdtIs (fun (s : Grp) (b : Nat) ↦ packs (grpE s b)) grpE ∧
           gOk s (↑p : Int) ∧
            ∀ (ao_1 : Option Addr) (cap_1 : Nat),
             (d = Addr.blkD (some (Addr.mk d 0 (@none Nat))) ∧
              0 = Addr.offD (some (Addr.mk d 0 (@none Nat))) ∧ 1 = 1 ∧ Int.toNat (↑p : Int) < List.length arr) ∧
              match !(gGone s (↑p : Int) ao_1 cap_1).2 == decide (List.getD arr (Int.toNat (↑p : Int)) (0 : Int) > (0 : Int)) with
              | true =>
               N
                [Ent.mk (Loc.sl ao cap) (SObj.roL 1 encU8 bs (0 : Int)),
                 Ent.mk (Loc.sl (some (Addr.mk b 0 (@none Nat))) 4)
                  (SObj.vecL (24 : TypeId) 1 encS [ByteArray.mk #[(97 : UInt8)], ByteArray.mk #[(98 : UInt8)], ByteArray.mk #[(99 : UInt8)], ByteArray.mk #[(100 : UInt8)]]
                   ByteArray.empty),
                 pkA b1 grpE (gGone s (↑p : Int) ao_1 cap_1).1,
                 Ent.mk (Loc.sl (some (Addr.mk d 0 (@none Nat))) 10) (SObj.vecL (29 : TypeId) 1 encI1 arr (0 : Int))]
                (SV.bool false)
              | false =>
               (some (Addr.mk d 0 (@none Nat)) = some (Addr.mk d 0 (@none Nat)) ∧
                0 = 0 ∧ 10 = List.length arr ∧ (0 : Int) ≤ (↑p : Int) ∧ (↑p : Int) < (↑10 : Int)) ∧
                (d = Addr.blkD (some (Addr.mk d 0 (@none Nat))) ∧
                 0 = Addr.offD (some (Addr.mk d 0 (@none Nat))) ∧
                  1 = 1 ∧ Int.toNat (↑p : Int) < List.length arr ∧ true = true ∧ 1 = 1 ∧ 1 ≤ 1) ∧
                 ∃ (e : Int),
                  [SV.int IntKind.i64 e] = [SV.int IntKind.i64 (0 : Int)] ∧
                   K (frmR [J0] (bodyOf Try.f3) 24)
                    (Sy.mk
                     [SV.vec 0 ao (List.length bs) cap, SV.raw (u 1), SV.raw (u 2), SV.ptr 1 b 0, SV.ptr 2 b1 0,
                      SV.raw (u 5), SV.ptr 3 d 0, SV.int IntKind.i64 (↑i : Int), SV.int IntKind.i64 (↑p : Int), SV.int IntKind.i64 (↑n : Int),
                      SV.raw (u 10), SV.raw (u 11), SV.raw (u 12), SV.raw (u 13), SV.raw (u 14), SV.raw (u 15),
                      SV.raw (u 16), SV.raw (u 17), SV.raw (u 18), SV.raw (u 19), SV.raw (u 20), SV.raw (u 21),
                      SV.raw (u 22), SV.raw (u 23), SV.raw (u 24), SV.raw (u 25), SV.raw (u 26), SV.raw (u 27),
                      SV.raw (u 28), SV.raw (u 29), SV.raw (u 30), SV.raw (u 31), SV.raw (u 32), SV.raw (u 33),
                      SV.raw (u 34), SV.raw (u 35), SV.raw (u 36), SV.raw (u 37), SV.raw (u 38), SV.raw (u 39),
                      SV.raw (u 40), SV.raw (u 41), SV.raw (u 42), SV.raw (u 43), SV.raw (u 44), SV.raw (u 45),
                      SV.raw (u 46), SV.raw (u 47), SV.raw (u 48), SV.raw (u 49), SV.raw (u 50), SV.raw (u 51),
                      SV.raw (u 52), SV.vec 0 ao (List.length bs) cap, SV.int IntKind.i64 (↑i : Int),
                      SV.eptr 0 (Addr.blkD ao) (Addr.offD ao) 1 (Int.toNat (↑i : Int)) 0,
                      SV.int IntKind.u8 (List.getD bs (Int.toNat (↑i : Int)) (0 : Int)),
                      SV.int IntKind.u8 (IntKind.wrap IntKind.u8 (Int.tdiv (List.getD bs (Int.toNat (↑i : Int)) (0 : Int)) (32 : Int))),
                      SV.int IntKind.u8 (Int.tmod (IntKind.wrap IntKind.u8 (Int.tdiv (List.getD bs (Int.toNat (↑i : Int)) (0 : Int)) (32 : Int))) (4 : Int)), SV.bool true,
                      SV.ptr 2 b1 0, SV.int IntKind.i64 (↑p : Int), SV.bool (gGone s (↑p : Int) ao_1 cap_1).2, SV.int IntKind.i64 (↑p : Int),
                      SV.eptr 3 d 0 1 (Int.toNat (↑p : Int)) 0, SV.int IntKind.i64 (List.getD arr (Int.toNat (↑p : Int)) (0 : Int)),
                      SV.bool (decide (List.getD arr (Int.toNat (↑p : Int)) (0 : Int) > (0 : Int))), SV.bool false, SV.int IntKind.i64 (↑p : Int),
                      SV.eptr 3 d 0 1 (Int.toNat (↑p : Int)) 0, SV.raw (u 70), SV.raw (u 71), SV.raw (u 72),
                      SV.raw (u 73), SV.raw (u 74), SV.raw (u 75), SV.raw (u 76), SV.raw (u 77), SV.raw (u 78),
                      SV.raw (u 79), SV.raw (u 80), SV.raw (u 81), SV.raw (u 82), SV.raw (u 83), SV.raw (u 84),
                      SV.raw (u 85), SV.raw (u 86), SV.raw (u 87), SV.raw (u 88), SV.raw (u 89), SV.raw (u 90),
                      SV.raw (u 91), SV.raw (u 92), SV.raw (u 93), SV.raw (u 94), SV.raw (u 95), SV.raw (u 96),
                      SV.raw (u 97), SV.raw (u 98), SV.raw (u 99), SV.raw (u 100), SV.raw (u 101), SV.raw (u 102),
                      SV.raw (u 103), SV.raw (u 104), SV.raw (u 105), SV.raw (u 106), SV.raw (u 107), SV.raw (u 108),
                      SV.raw (u 109), SV.raw (u 110), SV.raw (u 111), SV.raw (u 112), SV.raw (u 113), SV.raw (u 114),
                      SV.raw (u 115), SV.raw (u 116), SV.raw (u 117), SV.raw (u 118), SV.raw (u 119), SV.raw (u 120),
                      SV.raw (u 121), SV.raw (u 122), SV.raw (u 123), SV.raw (u 124), SV.raw (u 125), SV.raw (u 126),
                      SV.raw (u 127), SV.raw (u 128), SV.raw (u 129), SV.raw (u 130)]
                     [Ent.mk (Loc.sl ao cap) (SObj.roL 1 encU8 bs (0 : Int)),
                      Ent.mk (Loc.sl (some (Addr.mk b 0 (@none Nat))) 4)
                       (SObj.vecL (24 : TypeId) 1 encS
                        [ByteArray.mk #[(97 : UInt8)], ByteArray.mk #[(98 : UInt8)], ByteArray.mk #[(99 : UInt8)], ByteArray.mk #[(100 : UInt8)]] ByteArray.empty),
                      pkA b1 grpE (gGone s (↑p : Int) ao_1 cap_1).1,
                      Ent.mk (Loc.sl (some (Addr.mk d 0 (@none Nat))) 10)
                       (SObj.vecL (29 : TypeId) 1 encI1 (List.set arr (Int.toNat (↑p : Int)) e) (0 : Int))])) ∧
        (d = Addr.blkD (some (Addr.mk d 0 (@none Nat))) ∧
         0 = Addr.offD (some (Addr.mk d 0 (@none Nat))) ∧ 1 = 1 ∧ Int.toNat (↑p : Int) < List.length arr) ∧
         true = true ∧
          b1 = b1 ∧
           ∃ (h : Grp = Grp),
            AdtIs (fun (s : Grp) (b : Nat) ↦ packs (grpE s b)) grpE ∧
             gOk s (↑p : Int) ∧
              ∀ (ao_1 : Option Addr) (cap_1 : Nat),
               match !(gGone s (↑p : Int) ao_1 cap_1).2 == decide (List.getD arr (Int.toNat (↑p : Int)) (0 : Int) > (0 : Int)) with
               | true =>
                N
                 [Ent.mk (Loc.sl ao cap) (SObj.roL 1 encU8 bs (0 : Int)),
                  Ent.mk (Loc.sl (some (Addr.mk b 0 (@none Nat))) 4)
                   (SObj.vecL (24 : TypeId) 1 encS [ByteArray.mk #[(97 : UInt8)], ByteArray.mk #[(98 : UInt8)], ByteArray.mk #[(99 : UInt8)], ByteArray.mk #[(100 : UInt8)]]
                    ByteArray.empty),
                  pkA b1 grpE (gGone s (↑p : Int) ao_1 cap_1).1,
                  Ent.mk (Loc.sl (some (Addr.mk d 0 (@none Nat))) 10) (SObj.vecL (29 : TypeId) 1 encI1 arr (0 : Int))]
                 (SV.bool false)
               | false =>
                (some (Addr.mk d 0 (@none Nat)) = some (Addr.mk d 0 (@none Nat)) ∧
                 0 = 0 ∧ 10 = List.length arr ∧ (0 : Int) ≤ (↑p : Int) ∧ (↑p : Int) < (↑10 : Int)) ∧
                 (d = Addr.blkD (some (Addr.mk d 0 (@none Nat))) ∧
                  0 = Addr.offD (some (Addr.mk d 0 (@none Nat))) ∧
                   1 = 1 ∧ Int.toNat (↑p : Int) < List.length arr ∧ true = true ∧ 1 = 1 ∧ 1 ≤ 1) ∧
                  ∃ (e : Int),
                   [SV.int IntKind.i64 e] = [SV.int IntKind.i64 (0 : Int)] ∧
                    K (frmR [J0] (bodyOf Try.f3) 24)
                     (Sy.mk
                      [SV.vec 0 ao (List.length bs) cap, SV.raw (u 1), SV.raw (u 2), SV.ptr 1 b 0, SV.ptr 2 b1 0,
                       SV.raw (u 5), SV.ptr 3 d 0, SV.int IntKind.i64 (↑i : Int), SV.int IntKind.i64 (↑p : Int), SV.int IntKind.i64 (↑n : Int),
                       SV.raw (u 10), SV.raw (u 11), SV.raw (u 12), SV.raw (u 13), SV.raw (u 14), SV.raw (u 15),
                       SV.raw (u 16), SV.raw (u 17), SV.raw (u 18), SV.raw (u 19), SV.raw (u 20), SV.raw (u 21),
                       SV.raw (u 22), SV.raw (u 23), SV.raw (u 24), SV.raw (u 25), SV.raw (u 26), SV.raw (u 27),
                       SV.raw (u 28), SV.raw (u 29), SV.raw (u 30), SV.raw (u 31), SV.raw (u 32), SV.raw (u 33),
                       SV.raw (u 34), SV.raw (u 35), SV.raw (u 36), SV.raw (u 37), SV.raw (u 38), SV.raw (u 39),
                       SV.raw (u 40), SV.raw (u 41), SV.raw (u 42), SV.raw (u 43), SV.raw (u 44), SV.raw (u 45),
                       SV.raw (u 46), SV.raw (u 47), SV.raw (u 48), SV.raw (u 49), SV.raw (u 50), SV.raw (u 51),
                       SV.raw (u 52), SV.vec 0 ao (List.length bs) cap, SV.int IntKind.i64 (↑i : Int),
                       SV.eptr 0 (Addr.blkD ao) (Addr.offD ao) 1 (Int.toNat (↑i : Int)) 0,
                       SV.int IntKind.u8 (List.getD bs (Int.toNat (↑i : Int)) (0 : Int)),
                       SV.int IntKind.u8 (IntKind.wrap IntKind.u8 (Int.tdiv (List.getD bs (Int.toNat (↑i : Int)) (0 : Int)) (32 : Int))),
                       SV.int IntKind.u8 (Int.tmod (IntKind.wrap IntKind.u8 (Int.tdiv (List.getD bs (Int.toNat (↑i : Int)) (0 : Int)) (32 : Int))) (4 : Int)), SV.bool true,
                       SV.ptr 2 b1 0, SV.int IntKind.i64 (↑p : Int), SV.bool (gGone s (↑p : Int) ao_1 cap_1).2, SV.int IntKind.i64 (↑p : Int),
                       SV.eptr 3 d 0 1 (Int.toNat (↑p : Int)) 0, SV.int IntKind.i64 (List.getD arr (Int.toNat (↑p : Int)) (0 : Int)),
                       SV.bool (decide (List.getD arr (Int.toNat (↑p : Int)) (0 : Int) > (0 : Int))), SV.bool false, SV.int IntKind.i64 (↑p : Int),
                       SV.eptr 3 d 0 1 (Int.toNat (↑p : Int)) 0, SV.raw (u 70), SV.raw (u 71), SV.raw (u 72),
                       SV.raw (u 73), SV.raw (u 74), SV.raw (u 75), SV.raw (u 76), SV.raw (u 77), SV.raw (u 78),
                       SV.raw (u 79), SV.raw (u 80), SV.raw (u 81), SV.raw (u 82), SV.raw (u 83), SV.raw (u 84),
                       SV.raw (u 85), SV.raw (u 86), SV.raw (u 87), SV.raw (u 88), SV.raw (u 89), SV.raw (u 90),
                       SV.raw (u 91), SV.raw (u 92), SV.raw (u 93), SV.raw (u 94), SV.raw (u 95), SV.raw (u 96),
                       SV.raw (u 97), SV.raw (u 98), SV.raw (u 99), SV.raw (u 100), SV.raw (u 101), SV.raw (u 102),
                       SV.raw (u 103), SV.raw (u 104), SV.raw (u 105), SV.raw (u 106), SV.raw (u 107), SV.raw (u 108),
                       SV.raw (u 109), SV.raw (u 110), SV.raw (u 111), SV.raw (u 112), SV.raw (u 113), SV.raw (u 114),
                       SV.raw (u 115), SV.raw (u 116), SV.raw (u 117), SV.raw (u 118), SV.raw (u 119), SV.raw (u 120),
                       SV.raw (u 121), SV.raw (u 122), SV.raw (u 123), SV.raw (u 124), SV.raw (u 125), SV.raw (u 126),
                       SV.raw (u 127), SV.raw (u 128), SV.raw (u 129), SV.raw (u 130)]
                      [Ent.mk (Loc.sl ao cap) (SObj.roL 1 encU8 bs (0 : Int)),
                       Ent.mk (Loc.sl (some (Addr.mk b 0 (@none Nat))) 4)
                        (SObj.vecL (24 : TypeId) 1 encS
                         [ByteArray.mk #[(97 : UInt8)], ByteArray.mk #[(98 : UInt8)], ByteArray.mk #[(99 : UInt8)], ByteArray.mk #[(100 : UInt8)]] ByteArray.empty),
                       pkA b1 grpE (gGone s (↑p : Int) ao_1 cap_1).1,
                       Ent.mk (Loc.sl (some (Addr.mk d 0 (@none Nat))) 10)
                        (SObj.vecL (29 : TypeId) 1 encI1 (List.set arr (Int.toNat (↑p : Int)) e) (0 : Int))])
    | false =>
     (some (Addr.mk b 0 (@none Nat)) = some (Addr.mk b 0 (@none Nat)) ∧ 0 = 0 ∧ 4 = 4 ∧ (0 : Int) ≤ (↑n : Int) ∧ (↑n : Int) < (↑4 : Int)) ∧
      (b = Addr.blkD (some (Addr.mk b 0 (@none Nat))) ∧ 0 = Addr.offD (some (Addr.mk b 0 (@none Nat))) ∧ 1 = 1 ∧ Int.toNat (↑n : Int) < 4) ∧
       true = true ∧
        b1 = b1 ∧
         ∃ (h : Grp = Grp),
          AdtIs (fun (s : Grp) (b : Nat) ↦ packs (grpE s b)) grpE ∧
           (gOk s (↑p : Int) ∧ keysOk s.gs) ∧
            ∀ (ao_1 : Option Addr) (cap_1 : Nat),
             match
              (gPut s (↑p : Int)
               (List.getD [ByteArray.mk #[(97 : UInt8)], ByteArray.mk #[(98 : UInt8)], ByteArray.mk #[(99 : UInt8)], ByteArray.mk #[(100 : UInt8)]] (Int.toNat (↑n : Int))
                ByteArray.empty)
               ao_1 cap_1).2 !=
               (0 : Int) with
             | true =>
              N
               [Ent.mk (Loc.sl ao cap) (SObj.roL 1 encU8 bs (0 : Int)),
                Ent.mk (Loc.sl (some (Addr.mk b 0 (@none Nat))) 4)
                 (SObj.vecL (24 : TypeId) 1 encS [ByteArray.mk #[(97 : UInt8)], ByteArray.mk #[(98 : UInt8)], ByteArray.mk #[(99 : UInt8)], ByteArray.mk #[(100 : UInt8)]]
                  ByteArray.empty),
                pkA b1 grpE
                 (gPut s (↑p : Int)
                  (List.getD [ByteArray.mk #[(97 : UInt8)], ByteArray.mk #[(98 : UInt8)], ByteArray.mk #[(99 : UInt8)], ByteArray.mk #[(100 : UInt8)]] (Int.toNat (↑n : Int))
                   ByteArray.empty)
                  ao_1 cap_1).1,
                Ent.mk (Loc.sl (some (Addr.mk d 0 (@none Nat))) 10) (SObj.vecL (29 : TypeId) 1 encI1 arr (0 : Int))]
               (SV.bool false)
             | false =>
              (some (Addr.mk d 0 (@none Nat)) = some (Addr.mk d 0 (@none Nat)) ∧
               0 = 0 ∧ 10 = List.length arr ∧ (0 : Int) ≤ (↑p : Int) ∧ (↑p : Int) < (↑10 : Int)) ∧
               (d = Addr.blkD (some (Addr.mk d 0 (@none Nat))) ∧
                0 = Addr.offD (some (Addr.mk d 0 (@none Nat))) ∧
                 1 = 1 ∧ Int.toNat (↑p : Int) < List.length arr ∧ true = true ∧ 1 = 1 ∧ 1 ≤ 1) ∧
                ∃ (e : Int),
                 [SV.int IntKind.i64 e] = [SV.int IntKind.i64 (IntKind.wrap IntKind.i64 ((↑n : Int) + (1 : Int)))] ∧
                  K (frmR [J0] (bodyOf Try.f3) 24)
                   (Sy.mk
                    [SV.vec 0 ao (List.length bs) cap, SV.raw (u 1), SV.raw (u 2), SV.ptr 1 b 0, SV.ptr 2 b1 0,
                     SV.raw (u 5), SV.ptr 3 d 0, SV.int IntKind.i64 (↑i : Int), SV.int IntKind.i64 (↑p : Int), SV.int IntKind.i64 (↑n : Int),
                     SV.raw (u 10), SV.raw (u 11), SV.raw (u 12), SV.raw (u 13), SV.raw (u 14), SV.raw (u 15),
                     SV.raw (u 16), SV.raw (u 17), SV.raw (u 18), SV.raw (u 19), SV.raw (u 20), SV.raw (u 21),
                     SV.raw (u 22), SV.raw (u 23), SV.raw (u 24), SV.raw (u 25), SV.raw (u 26), SV.raw (u 27),
                     SV.raw (u 28), SV.raw (u 29), SV.raw (u 30), SV.raw (u 31), SV.raw (u 32), SV.raw (u 33),
                     SV.raw (u 34), SV.raw (u 35), SV.raw (u 36), SV.raw (u 37), SV.raw (u 38), SV.raw (u 39),
                     SV.raw (u 40), SV.raw (u 41), SV.raw (u 42), SV.raw (u 43), SV.raw (u 44), SV.raw (u 45),
                     SV.raw (u 46), SV.raw (u 47), SV.raw (u 48), SV.raw (u 49), SV.raw (u 50), SV.raw (u 51),
                     SV.raw (u 52), SV.vec 0 ao (List.length bs) cap, SV.int IntKind.i64 (↑i : Int),
                     SV.eptr 0 (Addr.blkD ao) (Addr.offD ao) 1 (Int.toNat (↑i : Int)) 0, SV.int IntKind.u8 (List.getD bs (Int.toNat (↑i : Int)) (0 : Int)),
                     SV.int IntKind.u8 (IntKind.wrap IntKind.u8 (Int.tdiv (List.getD bs (Int.toNat (↑i : Int)) (0 : Int)) (32 : Int))),
                     SV.int IntKind.u8 (Int.tmod (IntKind.wrap IntKind.u8 (Int.tdiv (List.getD bs (Int.toNat (↑i : Int)) (0 : Int)) (32 : Int))) (4 : Int)), SV.bool false,
                     SV.raw (u 60), SV.raw (u 61), SV.raw (u 62), SV.raw (u 63), SV.raw (u 64), SV.raw (u 65),
                     SV.raw (u 66), SV.raw (u 67), SV.raw (u 68), SV.raw (u 69), SV.ptr 2 b1 0, SV.int IntKind.i64 (↑p : Int),
                     SV.int IntKind.i64 (↑n : Int), SV.eptr 1 b 0 1 (Int.toNat (↑n : Int)) 0,
                     SV.str
                      (List.getD [ByteArray.mk #[(97 : UInt8)], ByteArray.mk #[(98 : UInt8)], ByteArray.mk #[(99 : UInt8)], ByteArray.mk #[(100 : UInt8)]] (Int.toNat (↑n : Int))
                       ByteArray.empty),
                     SV.int IntKind.i64
                      (gPut s (↑p : Int)
                       (List.getD [ByteArray.mk #[(97 : UInt8)], ByteArray.mk #[(98 : UInt8)], ByteArray.mk #[(99 : UInt8)], ByteArray.mk #[(100 : UInt8)]]
                        (Int.toNat (↑n : Int)) ByteArray.empty)
                       ao_1 cap_1).2,
                     SV.bool false, SV.int IntKind.i64 (↑p : Int), SV.int IntKind.i64 (↑n : Int), SV.int IntKind.i64 (IntKind.wrap IntKind.i64 ((↑n : Int) + (1 : Int))),
                     SV.eptr 3 d 0 1 (Int.toNat (↑p : Int)) 0, SV.raw (u 81), SV.raw (u 82), SV.raw (u 83),
                     SV.raw (u 84), SV.raw (u 85), SV.raw (u 86), SV.raw (u 87), SV.raw (u 88), SV.raw (u 89),
                     SV.raw (u 90), SV.raw (u 91), SV.raw (u 92), SV.raw (u 93), SV.raw (u 94), SV.raw (u 95),
                     SV.raw (u 96), SV.raw (u 97), SV.raw (u 98), SV.raw (u 99), SV.raw (u 100), SV.raw (u 101),
                     SV.raw (u 102), SV.raw (u 103), SV.raw (u 104), SV.raw (u 105), SV.raw (u 106), SV.raw (u 107),
                     SV.raw (u 108), SV.raw (u 109), SV.raw (u 110), SV.raw (u 111), SV.raw (u 112), SV.raw (u 113),
                     SV.raw (u 114), SV.raw (u 115), SV.raw (u 116), SV.raw (u 117), SV.raw (u 118), SV.raw (u 119),
                     SV.raw (u 120), SV.raw (u 121), SV.raw (u 122), SV.raw (u 123), SV.raw (u 124), SV.raw (u 125),
                     SV.raw (u 126), SV.raw (u 127), SV.raw (u 128), SV.raw (u 129), SV.raw (u 130)]
                    [Ent.mk (Loc.sl ao cap) (SObj.roL 1 encU8 bs (0 : Int)),
                     Ent.mk (Loc.sl (some (Addr.mk b 0 (@none Nat))) 4)
                      (SObj.vecL (24 : TypeId) 1 encS
                       [ByteArray.mk #[(97 : UInt8)], ByteArray.mk #[(98 : UInt8)], ByteArray.mk #[(99 : UInt8)], ByteArray.mk #[(100 : UInt8)]] ByteArray.empty),
                     pkA b1 grpE
                      (gPut s (↑p : Int)
                       (List.getD [ByteArray.mk #[(97 : UInt8)], ByteArray.mk #[(98 : UInt8)], ByteArray.mk #[(99 : UInt8)], ByteArray.mk #[(100 : UInt8)]]
                        (Int.toNat (↑n : Int)) ByteArray.empty)
                       ao_1 cap_1).1,
                     Ent.mk (Loc.sl (some (Addr.mk d 0 (@none Nat))) 10)
                      (SObj.vecL (29 : TypeId) 1 encI1 (List.set arr (Int.toNat (↑p : Int)) e) (0 : Int))])) := by kernel_rfl


theorem go_24 (K : List Frm → Sy → Prop) (N : List Ent → SV → Prop) (J0 : Act → World → Prop) (ao : Option Addr) (cap : Nat) (bs : List Int) (b b1 d : Nat) (s : Grp) (arr : List Int) (i : Nat) (u : Nat → Value) : (run Try.prog goT false [] K (retP Try.prog Try.f3.results.toList N) 900 (frmR [J0] (bodyOf Try.f3) 24) ⟨mkT u 131 0 [(0, .vec 0 ao bs.length cap), (3, .ptr 1 b 0), (4, .ptr 2 b1 0), (6, .ptr 3 d 0), (7, .int .i64 (i : Int))], [⟨.sl ao cap, .roL 1 encU8 bs 0⟩, ⟨.sl (some ⟨b, 0, none⟩) 4, .vecL 24 1 encS names4 ByteArray.empty⟩, pkA b1 grpE s, ⟨.sl (some ⟨d, 0, none⟩) 10, .vecL 29 1 encI1 arr 0⟩]⟩) = (
K
 (frm [J0] (bodyOf Try.f3)
  [1, 1, 1, 1, 1, 1, 1, 0, 1, 0, 0, 1, 0, 0, 1, 1, 1,
   0]
  [])
 (Sy.mk
  [SV.vec 0 ao (List.length bs) cap, SV.raw (u 1), SV.raw (u 2), SV.ptr 1 b 0, SV.ptr 2 b1 0, SV.raw (u 5),
   SV.ptr 3 d 0, SV.int IntKind.i64 (↑i : Int), SV.raw (u 8), SV.raw (u 9), SV.int IntKind.i64 (0 : Int), SV.raw (u 11), SV.raw (u 12),
   SV.raw (u 13), SV.raw (u 14), SV.raw (u 15), SV.raw (u 16), SV.raw (u 17), SV.raw (u 18), SV.raw (u 19), SV.raw (u 20),
   SV.raw (u 21), SV.raw (u 22), SV.raw (u 23), SV.raw (u 24), SV.raw (u 25), SV.raw (u 26), SV.raw (u 27), SV.raw (u 28),
   SV.raw (u 29), SV.raw (u 30), SV.raw (u 31), SV.raw (u 32), SV.raw (u 33), SV.raw (u 34), SV.raw (u 35), SV.raw (u 36),
   SV.raw (u 37), SV.raw (u 38), SV.raw (u 39), SV.raw (u 40), SV.raw (u 41), SV.raw (u 42), SV.raw (u 43), SV.raw (u 44),
   SV.raw (u 45), SV.raw (u 46), SV.raw (u 47), SV.raw (u 48), SV.raw (u 49), SV.raw (u 50), SV.raw (u 51), SV.raw (u 52),
   SV.raw (u 53), SV.raw (u 54), SV.raw (u 55), SV.raw (u 56), SV.raw (u 57), SV.raw (u 58), SV.raw (u 59), SV.raw (u 60),
   SV.raw (u 61), SV.raw (u 62), SV.raw (u 63), SV.raw (u 64), SV.raw (u 65), SV.raw (u 66), SV.raw (u 67), SV.raw (u 68),
   SV.raw (u 69), SV.raw (u 70), SV.raw (u 71), SV.raw (u 72), SV.raw (u 73), SV.raw (u 74), SV.raw (u 75), SV.raw (u 76),
   SV.raw (u 77), SV.raw (u 78), SV.raw (u 79), SV.raw (u 80), SV.raw (u 81), SV.raw (u 82), SV.raw (u 83), SV.raw (u 84),
   SV.raw (u 85), SV.raw (u 86), SV.raw (u 87), SV.raw (u 88), SV.raw (u 89), SV.raw (u 90), SV.raw (u 91), SV.raw (u 92),
   SV.raw (u 93), SV.raw (u 94), SV.raw (u 95), SV.raw (u 96), SV.raw (u 97), SV.raw (u 98), SV.raw (u 99), SV.raw (u 100),
   SV.raw (u 101), SV.raw (u 102), SV.raw (u 103), SV.raw (u 104), SV.raw (u 105), SV.raw (u 106), SV.raw (u 107), SV.raw (u 108),
   SV.raw (u 109), SV.raw (u 110), SV.raw (u 111), SV.raw (u 112), SV.raw (u 113), SV.raw (u 114), SV.raw (u 115), SV.raw (u 116),
   SV.raw (u 117), SV.raw (u 118), SV.raw (u 119), SV.raw (u 120), SV.raw (u 121), SV.raw (u 122), SV.raw (u 123), SV.raw (u 124),
   SV.raw (u 125), SV.raw (u 126), SV.raw (u 127), SV.raw (u 128), SV.raw (u 129), SV.raw (u 130)]
  [Ent.mk (Loc.sl ao cap) (SObj.roL 1 encU8 bs (0 : Int)),
   Ent.mk (Loc.sl (some (Addr.mk b 0 (@none Nat))) 4)
    (SObj.vecL (24 : TypeId) 1 encS [ByteArray.mk #[(97 : UInt8)], ByteArray.mk #[(98 : UInt8)], ByteArray.mk #[(99 : UInt8)], ByteArray.mk #[(100 : UInt8)]] ByteArray.empty),
   pkA b1 grpE s, Ent.mk (Loc.sl (some (Addr.mk d 0 (@none Nat))) 10) (SObj.vecL (29 : TypeId) 1 encI1 arr (0 : Int))])) := by kernel_rfl


theorem go_l2 (K : List Frm → Sy → Prop) (N : List Ent → SV → Prop) (J0 J1 : Act → World → Prop) (ao : Option Addr) (cap : Nat) (bs : List Int) (b b1 d : Nat) (s : Grp) (arr : List Int) (i : Nat) (k : Nat) (u : Nat → Value) : (run Try.prog goT false [] K (retP Try.prog Try.f3.results.toList N) 900 (frm [J0, J1] (bodyOf Try.f3) [1, 1, 1, 1, 1, 1, 1, 0, 1, 0, 0, 1, 0, 0, 1, 1, 1, 0, 0] []) ⟨mkT u 131 0 [(0, .vec 0 ao bs.length cap), (3, .ptr 1 b 0), (4, .ptr 2 b1 0), (6, .ptr 3 d 0), (7, .int .i64 (i : Int)), (10, .int .i64 (k : Int))], [⟨.sl ao cap, .roL 1 encU8 bs 0⟩, ⟨.sl (some ⟨b, 0, none⟩) 4, .vecL 24 1 encS names4 ByteArray.empty⟩, pkA b1 grpE s, ⟨.sl (some ⟨d, 0, none⟩) 10, .vecL 29 1 encI1 arr 0⟩]⟩) = (
match decide ((↑k : Int) < (4 : Int)) with
| true =>
 K
  (frm [J0, J1] (bodyOf Try.f3)
   [1, 1, 1, 1, 1, 1, 1, 0, 1, 0, 0, 1, 0, 0, 1, 1, 1,
    0, 0, 1, 0, 0, 1, 0, 1, 0]
   [])
  (Sy.mk
   [SV.vec 0 ao (List.length bs) cap, SV.raw (u 1), SV.raw (u 2), SV.ptr 1 b 0, SV.ptr 2 b1 0, SV.raw (u 5),
    SV.ptr 3 d 0, SV.int IntKind.i64 (↑i : Int), SV.raw (u 8), SV.raw (u 9), SV.int IntKind.i64 (↑k : Int), SV.raw (Value.slice (@none Addr) 0 0),
    SV.int IntKind.i64 (2 : Int), SV.raw (u 13), SV.raw (u 14), SV.raw (u 15), SV.raw (u 16), SV.raw (u 17), SV.raw (u 18), SV.raw (u 19),
    SV.raw (u 20), SV.raw (u 21), SV.raw (u 22), SV.raw (u 23), SV.raw (u 24), SV.raw (u 25), SV.raw (u 26), SV.raw (u 27),
    SV.raw (u 28), SV.raw (u 29), SV.raw (u 30), SV.raw (u 31), SV.raw (u 32), SV.raw (u 33), SV.raw (u 34), SV.raw (u 35),
    SV.raw (u 36), SV.raw (u 37), SV.raw (u 38), SV.raw (u 39), SV.raw (u 40), SV.raw (u 41), SV.raw (u 42), SV.raw (u 43),
    SV.raw (u 44), SV.raw (u 45), SV.raw (u 46), SV.raw (u 47), SV.raw (u 48), SV.raw (u 49), SV.raw (u 50), SV.raw (u 51),
    SV.raw (u 52), SV.raw (u 53), SV.raw (u 54), SV.raw (u 55), SV.raw (u 56), SV.raw (u 57), SV.raw (u 58), SV.raw (u 59),
    SV.raw (u 60), SV.raw (u 61), SV.raw (u 62), SV.raw (u 63), SV.raw (u 64), SV.raw (u 65), SV.raw (u 66), SV.raw (u 67),
    SV.raw (u 68), SV.raw (u 69), SV.raw (u 70), SV.raw (u 71), SV.raw (u 72), SV.raw (u 73), SV.raw (u 74), SV.raw (u 75),
    SV.raw (u 76), SV.raw (u 77), SV.raw (u 78), SV.raw (u 79), SV.raw (u 80), SV.int IntKind.i64 (↑k : Int), SV.bool true, SV.raw (u 83),
    SV.raw (u 84), SV.raw (u 85), SV.raw (u 86), SV.raw (u 87), SV.raw (u 88), SV.raw (u 89), SV.raw (u 90), SV.raw (u 91),
    SV.raw (u 92), SV.raw (u 93), SV.raw (u 94), SV.raw (u 95), SV.raw (u 96), SV.raw (u 97), SV.raw (u 98), SV.raw (u 99),
    SV.raw (u 100), SV.raw (u 101), SV.raw (u 102), SV.raw (u 103), SV.raw (u 104), SV.raw (u 105), SV.raw (u 106), SV.raw (u 107),
    SV.raw (u 108), SV.raw (u 109), SV.raw (u 110), SV.raw (u 111), SV.raw (u 112), SV.raw (u 113), SV.raw (u 114), SV.raw (u 115),
    SV.raw (u 116), SV.raw (u 117), SV.raw (u 118), SV.raw (u 119), SV.raw (u 120), SV.raw (u 121), SV.raw (u 122), SV.raw (u 123),
    SV.raw (u 124), SV.raw (u 125), SV.raw (u 126), SV.raw (u 127), SV.raw (u 128), SV.raw (u 129), SV.raw (u 130)]
   [Ent.mk (Loc.sl ao cap) (SObj.roL 1 encU8 bs (0 : Int)),
    Ent.mk (Loc.sl (some (Addr.mk b 0 (@none Nat))) 4)
     (SObj.vecL (24 : TypeId) 1 encS [ByteArray.mk #[(97 : UInt8)], ByteArray.mk #[(98 : UInt8)], ByteArray.mk #[(99 : UInt8)], ByteArray.mk #[(100 : UInt8)]] ByteArray.empty),
    pkA b1 grpE s, Ent.mk (Loc.sl (some (Addr.mk d 0 (@none Nat))) 10) (SObj.vecL (29 : TypeId) 1 encI1 arr (0 : Int))])
| false =>
 K (Frm.loop J0 :: Frm.blk 2 :: frm [] (bodyOf Try.f3) [1, 1, 1, 1, 1, 1, 1, 1] [])
  (Sy.mk
   [SV.vec 0 ao (List.length bs) cap, SV.raw (u 1), SV.raw (u 2), SV.ptr 1 b 0, SV.ptr 2 b1 0, SV.raw (u 5),
    SV.ptr 3 d 0, SV.int IntKind.i64 (IntKind.wrap IntKind.i64 ((↑i : Int) + (1 : Int))), SV.raw (u 8), SV.raw (u 9), SV.int IntKind.i64 (↑k : Int),
    SV.raw (u 11), SV.raw (u 12), SV.raw (u 13), SV.raw (u 14), SV.raw (u 15), SV.raw (u 16), SV.raw (u 17), SV.raw (u 18),
    SV.raw (u 19), SV.raw (u 20), SV.raw (u 21), SV.raw (u 22), SV.raw (u 23), SV.raw (u 24), SV.raw (u 25), SV.raw (u 26),
    SV.raw (u 27), SV.raw (u 28), SV.raw (u 29), SV.raw (u 30), SV.raw (u 31), SV.raw (u 32), SV.raw (u 33), SV.raw (u 34),
    SV.raw (u 35), SV.raw (u 36), SV.int IntKind.i64 (↑i : Int), SV.int IntKind.i64 (IntKind.wrap IntKind.i64 ((↑i : Int) + (1 : Int))), SV.raw (u 39),
    SV.raw (u 40), SV.raw (u 41), SV.raw (u 42), SV.raw (u 43), SV.raw (u 44), SV.raw (u 45), SV.raw (u 46), SV.raw (u 47),
    SV.raw (u 48), SV.raw (u 49), SV.raw (u 50), SV.raw (u 51), SV.raw (u 52), SV.raw (u 53), SV.raw (u 54), SV.raw (u 55),
    SV.raw (u 56), SV.raw (u 57), SV.raw (u 58), SV.raw (u 59), SV.raw (u 60), SV.raw (u 61), SV.raw (u 62), SV.raw (u 63),
    SV.raw (u 64), SV.raw (u 65), SV.raw (u 66), SV.raw (u 67), SV.raw (u 68), SV.raw (u 69), SV.raw (u 70), SV.raw (u 71),
    SV.raw (u 72), SV.raw (u 73), SV.raw (u 74), SV.raw (u 75), SV.raw (u 76), SV.raw (u 77), SV.raw (u 78), SV.raw (u 79),
    SV.raw (u 80), SV.int IntKind.i64 (↑k : Int), SV.bool false, SV.raw (u 83), SV.raw (u 84), SV.raw (u 85), SV.raw (u 86), SV.raw (u 87),
    SV.raw (u 88), SV.raw (u 89), SV.raw (u 90), SV.raw (u 91), SV.raw (u 92), SV.raw (u 93), SV.raw (u 94), SV.raw (u 95),
    SV.raw (u 96), SV.raw (u 97), SV.raw (u 98), SV.raw (u 99), SV.raw (u 100), SV.raw (u 101), SV.raw (u 102), SV.raw (u 103),
    SV.raw (u 104), SV.raw (u 105), SV.raw (u 106), SV.raw (u 107), SV.raw (u 108), SV.raw (u 109), SV.raw (u 110), SV.raw (u 111),
    SV.raw (u 112), SV.raw (u 113), SV.raw (u 114), SV.raw (u 115), SV.raw (u 116), SV.raw (u 117), SV.raw (u 118), SV.raw (u 119),
    SV.raw (u 120), SV.raw (u 121), SV.raw (u 122), SV.raw (u 123), SV.raw (u 124), SV.raw (u 125), SV.raw (u 126), SV.raw (u 127),
    SV.raw (u 128), SV.raw (u 129), SV.raw (u 130)]
   [Ent.mk (Loc.sl ao cap) (SObj.roL 1 encU8 bs (0 : Int)),
    Ent.mk (Loc.sl (some (Addr.mk b 0 (@none Nat))) 4)
     (SObj.vecL (24 : TypeId) 1 encS [ByteArray.mk #[(97 : UInt8)], ByteArray.mk #[(98 : UInt8)], ByteArray.mk #[(99 : UInt8)], ByteArray.mk #[(100 : UInt8)]] ByteArray.empty),
    pkA b1 grpE s, Ent.mk (Loc.sl (some (Addr.mk d 0 (@none Nat))) 10) (SObj.vecL (29 : TypeId) 1 encI1 arr (0 : Int))])) := by kernel_rfl


theorem go_l3 (K : List Frm → Sy → Prop) (N : List Ent → SV → Prop) (J0 J1 J2 : Act → World → Prop) (ao : Option Addr) (cap : Nat) (bs : List Int) (b b1 d : Nat) (s : Grp) (arr : List Int) (i : Nat) (k q : Nat) (aw : Option Addr) (cw : Nat) (want : List Int) (u : Nat → Value) : (run Try.prog goT true [] K (retP Try.prog Try.f3.results.toList N) 1500 (frm [J0, J1, J2] (bodyOf Try.f3) [1, 1, 1, 1, 1, 1, 1, 0, 1, 0, 0, 1, 0, 0, 1, 1, 1, 0, 0, 1, 0, 0, 1, 0, 1, 0, 0] []) ⟨mkT u 131 0 [(0, .vec 0 ao bs.length cap), (3, .ptr 1 b 0), (4, .ptr 2 b1 0), (6, .ptr 3 d 0), (7, .int .i64 (i : Int)), (10, .int .i64 (k : Int)), (11, .vec 4 aw want.length cw), (12, .int .i64 (q : Int))], [⟨.sl ao cap, .roL 1 encU8 bs 0⟩, ⟨.sl (some ⟨b, 0, none⟩) 4, .vecL 24 1 encS names4 ByteArray.empty⟩, pkA b1 grpE s, ⟨.sl (some ⟨d, 0, none⟩) 10, .vecL 29 1 encI1 arr 0⟩, ⟨.sl aw cw, .vecL 3 1 encI1 want 0⟩]⟩) = (
match decide ((↑q : Int) < (10 : Int)) with
| true =>
 (some (Addr.mk d 0 (@none Nat)) = some (Addr.mk d 0 (@none Nat)) ∧ 0 = 0 ∧ 10 = List.length arr ∧ (0 : Int) ≤ (↑q : Int) ∧ (↑q : Int) < (↑10 : Int)) ∧
  (d = Addr.blkD (some (Addr.mk d 0 (@none Nat))) ∧ 0 = Addr.offD (some (Addr.mk d 0 (@none Nat))) ∧ 1 = 1 ∧ Int.toNat (↑q : Int) < List.length arr) ∧
   match List.getD arr (Int.toNat (↑q : Int)) (0 : Int) == IntKind.wrap IntKind.i64 ((↑k : Int) + (1 : Int)) with
   | true =>
    (true = true ∧ 1 = 1 ∧ 0 < 1 ∧ 1 ≤ 16777216) ∧
     ∀ (b_1 : Nat),
      (aw = aw ∧
       cw = cw ∧
        List.length want = List.length want ∧
         some (Addr.mk b_1 0 (@none Nat)) = some (Addr.mk b_1 0 (@none Nat)) ∧
          (3 : TypeId) = 3 ∧
           1 = 1 ∧
            1 = 1 ∧
             0 < 1 ∧ true = true ∧ (List.length want + 1) * 8 ≤ 140737488355328 ∧ List.length want + 1 ≤ 9223372036854775807) ∧
       ∃ (es : List Int),
        List.length es = 1 ∧
         List.flatMap encI1 es = [SV.int IntKind.i64 (↑q : Int)] ∧
          ∀ (ao2 : Option Addr) (cap2 : Nat),
           List.length want + 1 ≤ cap2 →
            K
             (Frm.loop J2 ::
              Frm.blk 6 ::
               frm [J0, J1] (bodyOf Try.f3)
                [1, 1, 1, 1, 1, 1, 1, 0, 1, 0, 0, 1, 0, 0, 1,
                 1, 1, 0, 0, 1, 0, 0, 1, 1]
                [])
             (Sy.mk
              [SV.vec 0 ao (List.length bs) cap, SV.raw (u 1), SV.raw (u 2), SV.ptr 1 b 0, SV.ptr 2 b1 0, SV.raw (u 5),
               SV.ptr 3 d 0, SV.int IntKind.i64 (↑i : Int), SV.raw (u 8), SV.raw (u 9), SV.int IntKind.i64 (↑k : Int),
               SV.vec 4 ao2 (List.length want + 1) cap2, SV.int IntKind.i64 (IntKind.wrap IntKind.i64 ((↑q : Int) + (1 : Int))), SV.raw (u 13),
               SV.raw (u 14), SV.raw (u 15), SV.raw (u 16), SV.raw (u 17), SV.raw (u 18), SV.raw (u 19), SV.raw (u 20),
               SV.raw (u 21), SV.raw (u 22), SV.raw (u 23), SV.raw (u 24), SV.raw (u 25), SV.raw (u 26), SV.raw (u 27),
               SV.raw (u 28), SV.raw (u 29), SV.raw (u 30), SV.raw (u 31), SV.raw (u 32), SV.raw (u 33), SV.raw (u 34),
               SV.raw (u 35), SV.raw (u 36), SV.raw (u 37), SV.raw (u 38), SV.raw (u 39), SV.raw (u 40), SV.raw (u 41),
               SV.raw (u 42), SV.raw (u 43), SV.raw (u 44), SV.raw (u 45), SV.raw (u 46), SV.raw (u 47), SV.raw (u 48),
               SV.raw (u 49), SV.raw (u 50), SV.raw (u 51), SV.raw (u 52), SV.raw (u 53), SV.raw (u 54), SV.raw (u 55),
               SV.raw (u 56), SV.raw (u 57), SV.raw (u 58), SV.raw (u 59), SV.raw (u 60), SV.raw (u 61), SV.raw (u 62),
               SV.raw (u 63), SV.raw (u 64), SV.raw (u 65), SV.raw (u 66), SV.raw (u 67), SV.raw (u 68), SV.raw (u 69),
               SV.raw (u 70), SV.raw (u 71), SV.raw (u 72), SV.raw (u 73), SV.raw (u 74), SV.raw (u 75), SV.raw (u 76),
               SV.raw (u 77), SV.raw (u 78), SV.raw (u 79), SV.raw (u 80), SV.raw (u 81), SV.raw (u 82), SV.raw (u 83),
               SV.raw (u 84), SV.int IntKind.i64 (↑q : Int), SV.bool true, SV.int IntKind.i64 (↑q : Int), SV.int IntKind.i64 (IntKind.wrap IntKind.i64 ((↑q : Int) + (1 : Int))),
               SV.int IntKind.i64 (↑q : Int), SV.eptr 3 d 0 1 (Int.toNat (↑q : Int)) 0,
               SV.int IntKind.i64 (List.getD arr (Int.toNat (↑q : Int)) (0 : Int)), SV.int IntKind.i64 (↑k : Int),
               SV.int IntKind.i64 (IntKind.wrap IntKind.i64 ((↑k : Int) + (1 : Int))), SV.bool true, SV.vec 4 aw (List.length want) cw, SV.int IntKind.i64 (↑q : Int),
               SV.vec 5 (some (Addr.mk b_1 0 (@none Nat))) 1 1, SV.vec 4 ao2 (List.length want + 1) cap2, SV.raw (u 99),
               SV.raw (u 100), SV.raw (u 101), SV.raw (u 102), SV.raw (u 103), SV.raw (u 104), SV.raw (u 105), SV.raw (u 106),
               SV.raw (u 107), SV.raw (u 108), SV.raw (u 109), SV.raw (u 110), SV.raw (u 111), SV.raw (u 112), SV.raw (u 113),
               SV.raw (u 114), SV.raw (u 115), SV.raw (u 116), SV.raw (u 117), SV.raw (u 118), SV.raw (u 119), SV.raw (u 120),
               SV.raw (u 121), SV.raw (u 122), SV.raw (u 123), SV.raw (u 124), SV.raw (u 125), SV.raw (u 126), SV.raw (u 127),
               SV.raw (u 128), SV.raw (u 129), SV.raw (u 130)]
              [Ent.mk (Loc.sl ao cap) (SObj.roL 1 encU8 bs (0 : Int)),
               Ent.mk (Loc.sl (some (Addr.mk b 0 (@none Nat))) 4)
                (SObj.vecL (24 : TypeId) 1 encS [ByteArray.mk #[(97 : UInt8)], ByteArray.mk #[(98 : UInt8)], ByteArray.mk #[(99 : UInt8)], ByteArray.mk #[(100 : UInt8)]]
                 ByteArray.empty),
               pkA b1 grpE s, Ent.mk (Loc.sl (some (Addr.mk d 0 (@none Nat))) 10) (SObj.vecL (29 : TypeId) 1 encI1 arr (0 : Int)),
               Ent.mk (Loc.sl ao2 cap2) (SObj.vecL (3 : TypeId) 1 encI1 (want ++ es) (0 : Int)), Ent.mk (Loc.blk b_1) (SObj.cells [SV.int IntKind.i64 (↑q : Int)] 3)])
   | false =>
    K
     (Frm.loop J2 ::
      Frm.blk 6 ::
       frm [J0, J1] (bodyOf Try.f3)
        [1, 1, 1, 1, 1, 1, 1, 0, 1, 0, 0, 1, 0, 0, 1, 1,
         1, 0, 0, 1, 0, 0, 1, 1]
        [])
     (Sy.mk
      [SV.vec 0 ao (List.length bs) cap, SV.raw (u 1), SV.raw (u 2), SV.ptr 1 b 0, SV.ptr 2 b1 0, SV.raw (u 5),
       SV.ptr 3 d 0, SV.int IntKind.i64 (↑i : Int), SV.raw (u 8), SV.raw (u 9), SV.int IntKind.i64 (↑k : Int), SV.vec 4 aw (List.length want) cw,
       SV.int IntKind.i64 (IntKind.wrap IntKind.i64 ((↑q : Int) + (1 : Int))), SV.raw (u 13), SV.raw (u 14), SV.raw (u 15), SV.raw (u 16), SV.raw (u 17),
       SV.raw (u 18), SV.raw (u 19), SV.raw (u 20), SV.raw (u 21), SV.raw (u 22), SV.raw (u 23), SV.raw (u 24), SV.raw (u 25),
       SV.raw (u 26), SV.raw (u 27), SV.raw (u 28), SV.raw (u 29), SV.raw (u 30), SV.raw (u 31), SV.raw (u 32), SV.raw (u 33),
       SV.raw (u 34), SV.raw (u 35), SV.raw (u 36), SV.raw (u 37), SV.raw (u 38), SV.raw (u 39), SV.raw (u 40), SV.raw (u 41),
       SV.raw (u 42), SV.raw (u 43), SV.raw (u 44), SV.raw (u 45), SV.raw (u 46), SV.raw (u 47), SV.raw (u 48), SV.raw (u 49),
       SV.raw (u 50), SV.raw (u 51), SV.raw (u 52), SV.raw (u 53), SV.raw (u 54), SV.raw (u 55), SV.raw (u 56), SV.raw (u 57),
       SV.raw (u 58), SV.raw (u 59), SV.raw (u 60), SV.raw (u 61), SV.raw (u 62), SV.raw (u 63), SV.raw (u 64), SV.raw (u 65),
       SV.raw (u 66), SV.raw (u 67), SV.raw (u 68), SV.raw (u 69), SV.raw (u 70), SV.raw (u 71), SV.raw (u 72), SV.raw (u 73),
       SV.raw (u 74), SV.raw (u 75), SV.raw (u 76), SV.raw (u 77), SV.raw (u 78), SV.raw (u 79), SV.raw (u 80), SV.raw (u 81),
       SV.raw (u 82), SV.raw (u 83), SV.raw (u 84), SV.int IntKind.i64 (↑q : Int), SV.bool true, SV.int IntKind.i64 (↑q : Int),
       SV.int IntKind.i64 (IntKind.wrap IntKind.i64 ((↑q : Int) + (1 : Int))), SV.int IntKind.i64 (↑q : Int), SV.eptr 3 d 0 1 (Int.toNat (↑q : Int)) 0,
       SV.int IntKind.i64 (List.getD arr (Int.toNat (↑q : Int)) (0 : Int)), SV.int IntKind.i64 (↑k : Int), SV.int IntKind.i64 (IntKind.wrap IntKind.i64 ((↑k : Int) + (1 : Int))), SV.bool false,
       SV.raw (u 95), SV.raw (u 96), SV.raw (u 97), SV.raw (u 98), SV.raw (u 99), SV.raw (u 100), SV.raw (u 101), SV.raw (u 102),
       SV.raw (u 103), SV.raw (u 104), SV.raw (u 105), SV.raw (u 106), SV.raw (u 107), SV.raw (u 108), SV.raw (u 109),
       SV.raw (u 110), SV.raw (u 111), SV.raw (u 112), SV.raw (u 113), SV.raw (u 114), SV.raw (u 115), SV.raw (u 116),
       SV.raw (u 117), SV.raw (u 118), SV.raw (u 119), SV.raw (u 120), SV.raw (u 121), SV.raw (u 122), SV.raw (u 123),
       SV.raw (u 124), SV.raw (u 125), SV.raw (u 126), SV.raw (u 127), SV.raw (u 128), SV.raw (u 129), SV.raw (u 130)]
      [Ent.mk (Loc.sl ao cap) (SObj.roL 1 encU8 bs (0 : Int)),
       Ent.mk (Loc.sl (some (Addr.mk b 0 (@none Nat))) 4)
        (SObj.vecL (24 : TypeId) 1 encS [ByteArray.mk #[(97 : UInt8)], ByteArray.mk #[(98 : UInt8)], ByteArray.mk #[(99 : UInt8)], ByteArray.mk #[(100 : UInt8)]] ByteArray.empty),
       pkA b1 grpE s, Ent.mk (Loc.sl (some (Addr.mk d 0 (@none Nat))) 10) (SObj.vecL (29 : TypeId) 1 encI1 arr (0 : Int)),
       Ent.mk (Loc.sl aw cw) (SObj.vecL (3 : TypeId) 1 encI1 want (0 : Int))])
| false =>
 (some (Addr.mk b 0 (@none Nat)) = some (Addr.mk b 0 (@none Nat)) ∧ 0 = 0 ∧ 4 = 4 ∧ (0 : Int) ≤ (↑k : Int) ∧ (↑k : Int) < (↑4 : Int)) ∧
  (b = Addr.blkD (some (Addr.mk b 0 (@none Nat))) ∧ 0 = Addr.offD (some (Addr.mk b 0 (@none Nat))) ∧ 1 = 1 ∧ Int.toNat (↑k : Int) < 4) ∧
   true = true ∧
    b1 = b1 ∧
     ∃ (h : Grp = Grp),
      AdtIs (fun (s : Grp) (b : Nat) ↦ packs (grpE s b)) grpE ∧
       memOk (cast h s)
        (List.getD [ByteArray.mk #[(97 : UInt8)], ByteArray.mk #[(98 : UInt8)], ByteArray.mk #[(99 : UInt8)], ByteArray.mk #[(100 : UInt8)]] (Int.toNat (↑k : Int)) ByteArray.empty) ∧
        ∀ (ao_1 : Option Addr) (cap_1 : Nat),
         true = true ∧
          ∃ (xs : List Int),
           some
            (Ent.mk (Loc.sl ao_1 cap_1)
             (SObj.vecL (3 : TypeId) 1 encI1
              (memL s
               (List.getD [ByteArray.mk #[(97 : UInt8)], ByteArray.mk #[(98 : UInt8)], ByteArray.mk #[(99 : UInt8)], ByteArray.mk #[(100 : UInt8)]] (Int.toNat (↑k : Int))
                ByteArray.empty))
              (0 : Int))) =
            some (Ent.mk (Loc.sl ao_1 cap_1) (SObj.vecL (3 : TypeId) 1 encI1 xs (0 : Int))) ∧
            some (Ent.mk (Loc.sl aw cw) (SObj.vecL (3 : TypeId) 1 encI1 want (0 : Int))) = some (Ent.mk (Loc.sl aw cw) (SObj.vecL (3 : TypeId) 1 encI1 xs (0 : Int))) ∧
             (false = false ∧
              List.length
               (memL s
                (List.getD [ByteArray.mk #[(97 : UInt8)], ByteArray.mk #[(98 : UInt8)], ByteArray.mk #[(99 : UInt8)], ByteArray.mk #[(100 : UInt8)]] (Int.toNat (↑k : Int))
                 ByteArray.empty)) =
               List.length xs ∧
               List.length want = List.length xs ∧ List.length xs ≤ 1000000) ∧
              K (Frm.loop J1 :: Frm.blk 4 :: Frm.blk 3 :: frmR [J0] (bodyOf Try.f3) 15)
               (Sy.mk
                [SV.vec 0 ao (List.length bs) cap, SV.raw (u 1), SV.raw (u 2), SV.ptr 1 b 0, SV.ptr 2 b1 0,
                 SV.raw (u 5), SV.ptr 3 d 0, SV.int IntKind.i64 (↑i : Int), SV.raw (u 8), SV.raw (u 9),
                 SV.int IntKind.i64 (IntKind.wrap IntKind.i64 ((↑k : Int) + (1 : Int))), SV.vec 4 aw (List.length want) cw, SV.int IntKind.i64 (↑q : Int),
                 SV.raw (u 13), SV.raw (u 14), SV.raw (u 15), SV.raw (u 16), SV.raw (u 17), SV.raw (u 18), SV.raw (u 19),
                 SV.raw (u 20), SV.raw (u 21), SV.raw (u 22), SV.raw (u 23), SV.raw (u 24), SV.raw (u 25), SV.raw (u 26),
                 SV.raw (u 27), SV.raw (u 28), SV.raw (u 29), SV.raw (u 30), SV.raw (u 31), SV.raw (u 32), SV.raw (u 33),
                 SV.raw (u 34), SV.raw (u 35), SV.raw (u 36), SV.raw (u 37), SV.raw (u 38), SV.raw (u 39), SV.raw (u 40),
                 SV.raw (u 41), SV.raw (u 42), SV.raw (u 43), SV.raw (u 44), SV.raw (u 45), SV.raw (u 46), SV.raw (u 47),
                 SV.raw (u 48), SV.raw (u 49), SV.raw (u 50), SV.raw (u 51), SV.raw (u 52), SV.raw (u 53), SV.raw (u 54),
                 SV.raw (u 55), SV.raw (u 56), SV.raw (u 57), SV.raw (u 58), SV.raw (u 59), SV.raw (u 60), SV.raw (u 61),
                 SV.raw (u 62), SV.raw (u 63), SV.raw (u 64), SV.raw (u 65), SV.raw (u 66), SV.raw (u 67), SV.raw (u 68),
                 SV.raw (u 69), SV.raw (u 70), SV.raw (u 71), SV.raw (u 72), SV.raw (u 73), SV.raw (u 74), SV.raw (u 75),
                 SV.raw (u 76), SV.raw (u 77), SV.raw (u 78), SV.raw (u 79), SV.raw (u 80), SV.raw (u 81), SV.raw (u 82),
                 SV.int IntKind.i64 (↑k : Int), SV.int IntKind.i64 (IntKind.wrap IntKind.i64 ((↑k : Int) + (1 : Int))), SV.int IntKind.i64 (↑q : Int), SV.bool false,
                 SV.raw (u 87), SV.raw (u 88), SV.raw (u 89), SV.raw (u 90), SV.raw (u 91), SV.raw (u 92), SV.raw (u 93),
                 SV.raw (u 94), SV.raw (u 95), SV.raw (u 96), SV.raw (u 97), SV.raw (u 98), SV.ptr 2 b1 0,
                 SV.int IntKind.i64 (↑k : Int), SV.eptr 1 b 0 1 (Int.toNat (↑k : Int)) 0,
                 SV.str
                  (List.getD [ByteArray.mk #[(97 : UInt8)], ByteArray.mk #[(98 : UInt8)], ByteArray.mk #[(99 : UInt8)], ByteArray.mk #[(100 : UInt8)]] (Int.toNat (↑k : Int))
                   ByteArray.empty),
                 SV.vec 5 ao_1
                  (List.length
                   (memL s
                    (List.getD [ByteArray.mk #[(97 : UInt8)], ByteArray.mk #[(98 : UInt8)], ByteArray.mk #[(99 : UInt8)], ByteArray.mk #[(100 : UInt8)]] (Int.toNat (↑k : Int))
                     ByteArray.empty)))
                  cap_1,
                 SV.vec 4 aw (List.length want) cw, SV.bool true, SV.bool false, SV.raw (u 107), SV.raw (u 108), SV.raw (u 109),
                 SV.raw (u 110), SV.raw (u 111), SV.raw (u 112), SV.raw (u 113), SV.raw (u 114), SV.raw (u 115),
                 SV.raw (u 116), SV.raw (u 117), SV.raw (u 118), SV.raw (u 119), SV.raw (u 120), SV.raw (u 121),
                 SV.raw (u 122), SV.raw (u 123), SV.raw (u 124), SV.raw (u 125), SV.raw (u 126), SV.raw (u 127),
                 SV.raw (u 128), SV.raw (u 129), SV.raw (u 130)]
                [Ent.mk (Loc.sl ao cap) (SObj.roL 1 encU8 bs (0 : Int)),
                 Ent.mk (Loc.sl (some (Addr.mk b 0 (@none Nat))) 4)
                  (SObj.vecL (24 : TypeId) 1 encS [ByteArray.mk #[(97 : UInt8)], ByteArray.mk #[(98 : UInt8)], ByteArray.mk #[(99 : UInt8)], ByteArray.mk #[(100 : UInt8)]]
                   ByteArray.empty),
                 pkA b1 grpE s, Ent.mk (Loc.sl (some (Addr.mk d 0 (@none Nat))) 10) (SObj.vecL (29 : TypeId) 1 encI1 arr (0 : Int)),
                 Ent.mk (Loc.sl aw cw) (SObj.vecL (3 : TypeId) 1 encI1 want (0 : Int)),
                 Ent.mk (Loc.sl ao_1 cap_1)
                  (SObj.vecL (3 : TypeId) 1 encI1
                   (memL s
                    (List.getD [ByteArray.mk #[(97 : UInt8)], ByteArray.mk #[(98 : UInt8)], ByteArray.mk #[(99 : UInt8)], ByteArray.mk #[(100 : UInt8)]] (Int.toNat (↑k : Int))
                     ByteArray.empty))
                   (0 : Int))])) := by kernel_rfl


theorem go_l4 (K : List Frm → Sy → Prop) (N : List Ent → SV → Prop) (J : Act → World → Prop) (ao : Option Addr) (cap : Nat) (bs : List Int) (b b1 d : Nat) (s : Grp) (arr : List Int) (k : Nat) (u : Nat → Value) : (run Try.prog goT true [] K (retP Try.prog Try.f3.results.toList N) 1500 (frm [J] (bodyOf Try.f3) [1, 1, 1, 1, 1, 1, 1, 1, 0, 1, 0, 0] []) ⟨mkT u 131 0 [(0, .vec 0 ao bs.length cap), (3, .ptr 1 b 0), (4, .ptr 2 b1 0), (6, .ptr 3 d 0), (13, .int .i64 (k : Int))], [⟨.sl ao cap, .roL 1 encU8 bs 0⟩, ⟨.sl (some ⟨b, 0, none⟩) 4, .vecL 24 1 encS names4 ByteArray.empty⟩, pkA b1 grpE s, ⟨.sl (some ⟨d, 0, none⟩) 10, .vecL 29 1 encI1 arr 0⟩]⟩) = (
match decide ((↑k : Int) < (5 : Int)) with
| true =>
 true = true ∧
  b1 = b1 ∧
   ∃ (h : Grp = Grp),
    AdtIs (fun (s : Grp) (b : Nat) ↦ packs (grpE s b)) grpE ∧
     ∀ (ao_1 : Option Addr) (cap_1 : Nat),
      match Option.isSome (gEmptied s ao_1 cap_1).2 with
      | true =>
       true = true ∧
        b1 = b1 ∧
         ∃ (h : Grp = Grp),
          AdtIs (fun (s : Grp) (b : Nat) ↦ packs (grpE s b)) grpE ∧
           memOk (cast h (gEmptied s ao_1 cap_1).1)
            (match (gEmptied s ao_1 cap_1).2 with
            | some x => x
            | none => ByteArray.mk #[]) ∧
            ∀ (ao_2 : Option Addr) (cap_2 : Nat),
             match
              decide
               ((↑(List.length
                (memL (Grp.mk s.1 s.2 ao_1 cap_1 s.5 s.6 (firstEmpty s.5 s.7).1)
                 (match (gEmptied s ao_1 cap_1).2 with
                 | some x => x
                 | none => ByteArray.mk #[]))) :
                Int) >
                (0 : Int)) with
             | true =>
              true = true ∧
               N
                [Ent.mk (Loc.sl ao cap) (SObj.roL 1 encU8 bs (0 : Int)),
                 Ent.mk (Loc.sl (some (Addr.mk b 0 (@none Nat))) 4)
                  (SObj.vecL (24 : TypeId) 1 encS [ByteArray.mk #[(97 : UInt8)], ByteArray.mk #[(98 : UInt8)], ByteArray.mk #[(99 : UInt8)], ByteArray.mk #[(100 : UInt8)]]
                   ByteArray.empty),
                 pkA b1 grpE (gEmptied s ao_1 cap_1).1, Ent.mk (Loc.sl (some (Addr.mk d 0 (@none Nat))) 10) (SObj.vecL (29 : TypeId) 1 encI1 arr (0 : Int)),
                 Ent.mk (Loc.sl ao_2 cap_2)
                  (SObj.vecL (3 : TypeId) 1 encI1
                   (memL (Grp.mk s.1 s.2 ao_1 cap_1 s.5 s.6 (firstEmpty s.5 s.7).1)
                    (match (gEmptied s ao_1 cap_1).2 with
                    | some x => x
                    | none => ByteArray.mk #[]))
                   (0 : Int))]
                (SV.bool false)
             | false =>
              match (↑k : Int) == (4 : Int) with
              | true =>
               match Option.isSome (gEmptied s ao_1 cap_1).2 with
               | true =>
                N
                 [Ent.mk (Loc.sl ao cap) (SObj.roL 1 encU8 bs (0 : Int)),
                  Ent.mk (Loc.sl (some (Addr.mk b 0 (@none Nat))) 4)
                   (SObj.vecL (24 : TypeId) 1 encS [ByteArray.mk #[(97 : UInt8)], ByteArray.mk #[(98 : UInt8)], ByteArray.mk #[(99 : UInt8)], ByteArray.mk #[(100 : UInt8)]]
                    ByteArray.empty),
                  pkA b1 grpE (gEmptied s ao_1 cap_1).1, Ent.mk (Loc.sl (some (Addr.mk d 0 (@none Nat))) 10) (SObj.vecL (29 : TypeId) 1 encI1 arr (0 : Int)),
                  Ent.mk (Loc.sl ao_2 cap_2)
                   (SObj.vecL (3 : TypeId) 1 encI1
                    (memL (Grp.mk s.1 s.2 ao_1 cap_1 s.5 s.6 (firstEmpty s.5 s.7).1)
                     (match (gEmptied s ao_1 cap_1).2 with
                     | some x => x
                     | none => ByteArray.mk #[]))
                    (0 : Int))]
                 (SV.bool false)
               | false =>
                K (Frm.loop J :: Frm.blk 8 :: frm [] (bodyOf Try.f3) [1, 1, 1, 1, 1, 1, 1, 1, 1] [])
                 (Sy.mk
                  [SV.vec 0 ao (List.length bs) cap, SV.raw (u 1), SV.raw (u 2), SV.ptr 1 b 0, SV.ptr 2 b1 0,
                   SV.raw (u 5), SV.ptr 3 d 0, SV.raw (u 7), SV.raw (u 8), SV.raw (u 9), SV.raw (u 10),
                   SV.raw (u 11), SV.raw (u 12), SV.int IntKind.i64 (IntKind.wrap IntKind.i64 ((↑k : Int) + (1 : Int))),
                   SV.str
                    (match (gEmptied s ao_1 cap_1).2 with
                    | some x => x
                    | none => ByteArray.mk #[]),
                   SV.bool (Option.isSome (gEmptied s ao_1 cap_1).2), SV.raw (u 16), SV.raw (u 17), SV.raw (u 18), SV.raw (u 19),
                   SV.raw (u 20), SV.raw (u 21), SV.raw (u 22), SV.raw (u 23), SV.raw (u 24), SV.raw (u 25), SV.raw (u 26),
                   SV.raw (u 27), SV.raw (u 28), SV.raw (u 29), SV.raw (u 30), SV.raw (u 31), SV.raw (u 32), SV.raw (u 33),
                   SV.raw (u 34), SV.raw (u 35), SV.raw (u 36), SV.raw (u 37), SV.raw (u 38), SV.raw (u 39), SV.raw (u 40),
                   SV.raw (u 41), SV.raw (u 42), SV.raw (u 43), SV.raw (u 44), SV.raw (u 45), SV.raw (u 46), SV.raw (u 47),
                   SV.raw (u 48), SV.raw (u 49), SV.raw (u 50), SV.raw (u 51), SV.raw (u 52), SV.raw (u 53), SV.raw (u 54),
                   SV.raw (u 55), SV.raw (u 56), SV.raw (u 57), SV.raw (u 58), SV.raw (u 59), SV.raw (u 60), SV.raw (u 61),
                   SV.raw (u 62), SV.raw (u 63), SV.raw (u 64), SV.raw (u 65), SV.raw (u 66), SV.raw (u 67), SV.raw (u 68),
                   SV.raw (u 69), SV.raw (u 70), SV.raw (u 71), SV.raw (u 72), SV.raw (u 73), SV.raw (u 74), SV.raw (u 75),
                   SV.raw (u 76), SV.raw (u 77), SV.raw (u 78), SV.raw (u 79), SV.raw (u 80), SV.raw (u 81), SV.raw (u 82),
                   SV.raw (u 83), SV.raw (u 84), SV.raw (u 85), SV.raw (u 86), SV.raw (u 87), SV.raw (u 88), SV.raw (u 89),
                   SV.raw (u 90), SV.raw (u 91), SV.raw (u 92), SV.raw (u 93), SV.raw (u 94), SV.raw (u 95), SV.raw (u 96),
                   SV.raw (u 97), SV.raw (u 98), SV.raw (u 99), SV.raw (u 100), SV.raw (u 101), SV.raw (u 102),
                   SV.raw (u 103), SV.raw (u 104), SV.raw (u 105), SV.raw (u 106), SV.int IntKind.i64 (↑k : Int), SV.bool true,
                   SV.int IntKind.i64 (↑k : Int), SV.int IntKind.i64 (IntKind.wrap IntKind.i64 ((↑k : Int) + (1 : Int))),
                   SV.tuple
                    [SV.str
                     (match (gEmptied s ao_1 cap_1).2 with
                     | some x => x
                     | none => ByteArray.mk #[]),
                     SV.bool (Option.isSome (gEmptied s ao_1 cap_1).2)],
                   SV.ptr 2 b1 0,
                   SV.tuple
                    [SV.str
                     (match (gEmptied s ao_1 cap_1).2 with
                     | some x => x
                     | none => ByteArray.mk #[]),
                     SV.bool (Option.isSome (gEmptied s ao_1 cap_1).2)],
                   SV.str
                    (match (gEmptied s ao_1 cap_1).2 with
                    | some x => x
                    | none => ByteArray.mk #[]),
                   SV.bool (Option.isSome (gEmptied s ao_1 cap_1).2), SV.bool (Option.isSome (gEmptied s ao_1 cap_1).2), SV.bool true, SV.ptr 2 b1 0,
                   SV.str
                    (match (gEmptied s ao_1 cap_1).2 with
                    | some x => x
                    | none => ByteArray.mk #[]),
                   SV.vec 4 ao_2
                    (List.length
                     (memL (Grp.mk s.1 s.2 ao_1 cap_1 s.5 s.6 (firstEmpty s.5 s.7).1)
                      (match (gEmptied s ao_1 cap_1).2 with
                      | some x => x
                      | none => ByteArray.mk #[])))
                    cap_2,
                   SV.int IntKind.i64
                    (↑(List.length
                     (memL (Grp.mk s.1 s.2 ao_1 cap_1 s.5 s.6 (firstEmpty s.5 s.7).1)
                      (match (gEmptied s ao_1 cap_1).2 with
                      | some x => x
                      | none => ByteArray.mk #[]))) :
                     Int),
                   SV.bool
                    (decide
                     ((↑(List.length
                      (memL (Grp.mk s.1 s.2 ao_1 cap_1 s.5 s.6 (firstEmpty s.5 s.7).1)
                       (match (gEmptied s ao_1 cap_1).2 with
                       | some x => x
                       | none => ByteArray.mk #[]))) :
                      Int) >
                      (0 : Int))),
                   SV.bool
                    (decide
                     ((↑(List.length
                      (memL (Grp.mk s.1 s.2 ao_1 cap_1 s.5 s.6 (firstEmpty s.5 s.7).1)
                       (match (gEmptied s ao_1 cap_1).2 with
                       | some x => x
                       | none => ByteArray.mk #[]))) :
                      Int) >
                      (0 : Int))),
                   SV.bool false, SV.int IntKind.i64 (↑k : Int), SV.bool ((↑k : Int) == (4 : Int)), SV.bool true, SV.bool (Option.isSome (gEmptied s ao_1 cap_1).2),
                   SV.bool (Option.isSome (gEmptied s ao_1 cap_1).2), SV.bool false]
                  [Ent.mk (Loc.sl ao cap) (SObj.roL 1 encU8 bs (0 : Int)),
                   Ent.mk (Loc.sl (some (Addr.mk b 0 (@none Nat))) 4)
                    (SObj.vecL (24 : TypeId) 1 encS
                     [ByteArray.mk #[(97 : UInt8)], ByteArray.mk #[(98 : UInt8)], ByteArray.mk #[(99 : UInt8)], ByteArray.mk #[(100 : UInt8)]] ByteArray.empty),
                   pkA b1 grpE (gEmptied s ao_1 cap_1).1,
                   Ent.mk (Loc.sl (some (Addr.mk d 0 (@none Nat))) 10) (SObj.vecL (29 : TypeId) 1 encI1 arr (0 : Int)),
                   Ent.mk (Loc.sl ao_2 cap_2)
                    (SObj.vecL (3 : TypeId) 1 encI1
                     (memL (Grp.mk s.1 s.2 ao_1 cap_1 s.5 s.6 (firstEmpty s.5 s.7).1)
                      (match (gEmptied s ao_1 cap_1).2 with
                      | some x => x
                      | none => ByteArray.mk #[]))
                     (0 : Int))])
              | false =>
               K (Frm.loop J :: Frm.blk 8 :: frm [] (bodyOf Try.f3) [1, 1, 1, 1, 1, 1, 1, 1, 1] [])
                (Sy.mk
                 [SV.vec 0 ao (List.length bs) cap, SV.raw (u 1), SV.raw (u 2), SV.ptr 1 b 0, SV.ptr 2 b1 0,
                  SV.raw (u 5), SV.ptr 3 d 0, SV.raw (u 7), SV.raw (u 8), SV.raw (u 9), SV.raw (u 10), SV.raw (u 11),
                  SV.raw (u 12), SV.int IntKind.i64 (IntKind.wrap IntKind.i64 ((↑k : Int) + (1 : Int))),
                  SV.str
                   (match (gEmptied s ao_1 cap_1).2 with
                   | some x => x
                   | none => ByteArray.mk #[]),
                  SV.bool (Option.isSome (gEmptied s ao_1 cap_1).2), SV.raw (u 16), SV.raw (u 17), SV.raw (u 18), SV.raw (u 19),
                  SV.raw (u 20), SV.raw (u 21), SV.raw (u 22), SV.raw (u 23), SV.raw (u 24), SV.raw (u 25), SV.raw (u 26),
                  SV.raw (u 27), SV.raw (u 28), SV.raw (u 29), SV.raw (u 30), SV.raw (u 31), SV.raw (u 32), SV.raw (u 33),
                  SV.raw (u 34), SV.raw (u 35), SV.raw (u 36), SV.raw (u 37), SV.raw (u 38), SV.raw (u 39), SV.raw (u 40),
                  SV.raw (u 41), SV.raw (u 42), SV.raw (u 43), SV.raw (u 44), SV.raw (u 45), SV.raw (u 46), SV.raw (u 47),
                  SV.raw (u 48), SV.raw (u 49), SV.raw (u 50), SV.raw (u 51), SV.raw (u 52), SV.raw (u 53), SV.raw (u 54),
                  SV.raw (u 55), SV.raw (u 56), SV.raw (u 57), SV.raw (u 58), SV.raw (u 59), SV.raw (u 60), SV.raw (u 61),
                  SV.raw (u 62), SV.raw (u 63), SV.raw (u 64), SV.raw (u 65), SV.raw (u 66), SV.raw (u 67), SV.raw (u 68),
                  SV.raw (u 69), SV.raw (u 70), SV.raw (u 71), SV.raw (u 72), SV.raw (u 73), SV.raw (u 74), SV.raw (u 75),
                  SV.raw (u 76), SV.raw (u 77), SV.raw (u 78), SV.raw (u 79), SV.raw (u 80), SV.raw (u 81), SV.raw (u 82),
                  SV.raw (u 83), SV.raw (u 84), SV.raw (u 85), SV.raw (u 86), SV.raw (u 87), SV.raw (u 88), SV.raw (u 89),
                  SV.raw (u 90), SV.raw (u 91), SV.raw (u 92), SV.raw (u 93), SV.raw (u 94), SV.raw (u 95), SV.raw (u 96),
                  SV.raw (u 97), SV.raw (u 98), SV.raw (u 99), SV.raw (u 100), SV.raw (u 101), SV.raw (u 102), SV.raw (u 103),
                  SV.raw (u 104), SV.raw (u 105), SV.raw (u 106), SV.int IntKind.i64 (↑k : Int), SV.bool true, SV.int IntKind.i64 (↑k : Int),
                  SV.int IntKind.i64 (IntKind.wrap IntKind.i64 ((↑k : Int) + (1 : Int))),
                  SV.tuple
                   [SV.str
                    (match (gEmptied s ao_1 cap_1).2 with
                    | some x => x
                    | none => ByteArray.mk #[]),
                    SV.bool (Option.isSome (gEmptied s ao_1 cap_1).2)],
                  SV.ptr 2 b1 0,
                  SV.tuple
                   [SV.str
                    (match (gEmptied s ao_1 cap_1).2 with
                    | some x => x
                    | none => ByteArray.mk #[]),
                    SV.bool (Option.isSome (gEmptied s ao_1 cap_1).2)],
                  SV.str
                   (match (gEmptied s ao_1 cap_1).2 with
                   | some x => x
                   | none => ByteArray.mk #[]),
                  SV.bool (Option.isSome (gEmptied s ao_1 cap_1).2), SV.bool (Option.isSome (gEmptied s ao_1 cap_1).2), SV.bool true, SV.ptr 2 b1 0,
                  SV.str
                   (match (gEmptied s ao_1 cap_1).2 with
                   | some x => x
                   | none => ByteArray.mk #[]),
                  SV.vec 4 ao_2
                   (List.length
                    (memL (Grp.mk s.1 s.2 ao_1 cap_1 s.5 s.6 (firstEmpty s.5 s.7).1)
                     (match (gEmptied s ao_1 cap_1).2 with
                     | some x => x
                     | none => ByteArray.mk #[])))
                   cap_2,
                  SV.int IntKind.i64
                   (↑(List.length
                    (memL (Grp.mk s.1 s.2 ao_1 cap_1 s.5 s.6 (firstEmpty s.5 s.7).1)
                     (match (gEmptied s ao_1 cap_1).2 with
                     | some x => x
                     | none => ByteArray.mk #[]))) :
                    Int),
                  SV.bool
                   (decide
                    ((↑(List.length
                     (memL (Grp.mk s.1 s.2 ao_1 cap_1 s.5 s.6 (firstEmpty s.5 s.7).1)
                      (match (gEmptied s ao_1 cap_1).2 with
                      | some x => x
                      | none => ByteArray.mk #[]))) :
                     Int) >
                     (0 : Int))),
                  SV.bool
                   (decide
                    ((↑(List.length
                     (memL (Grp.mk s.1 s.2 ao_1 cap_1 s.5 s.6 (firstEmpty s.5 s.7).1)
                      (match (gEmptied s ao_1 cap_1).2 with
                      | some x => x
                      | none => ByteArray.mk #[]))) :
                     Int) >
                     (0 : Int))),
                  SV.bool false, SV.int IntKind.i64 (↑k : Int), SV.bool ((↑k : Int) == (4 : Int)), SV.bool false, SV.raw (Value.tuple #[]), SV.bool false, SV.bool false]
                 [Ent.mk (Loc.sl ao cap) (SObj.roL 1 encU8 bs (0 : Int)),
                  Ent.mk (Loc.sl (some (Addr.mk b 0 (@none Nat))) 4)
                   (SObj.vecL (24 : TypeId) 1 encS [ByteArray.mk #[(97 : UInt8)], ByteArray.mk #[(98 : UInt8)], ByteArray.mk #[(99 : UInt8)], ByteArray.mk #[(100 : UInt8)]]
                    ByteArray.empty),
                  pkA b1 grpE (gEmptied s ao_1 cap_1).1, Ent.mk (Loc.sl (some (Addr.mk d 0 (@none Nat))) 10) (SObj.vecL (29 : TypeId) 1 encI1 arr (0 : Int)),
                  Ent.mk (Loc.sl ao_2 cap_2)
                   (SObj.vecL (3 : TypeId) 1 encI1
                    (memL (Grp.mk s.1 s.2 ao_1 cap_1 s.5 s.6 (firstEmpty s.5 s.7).1)
                     (match (gEmptied s ao_1 cap_1).2 with
                     | some x => x
                     | none => ByteArray.mk #[]))
                    (0 : Int))])
      | false =>
       match (↑k : Int) == (4 : Int) with
       | true =>
        match Option.isSome (gEmptied s ao_1 cap_1).2 with
        | true =>
         N
          [Ent.mk (Loc.sl ao cap) (SObj.roL 1 encU8 bs (0 : Int)),
           Ent.mk (Loc.sl (some (Addr.mk b 0 (@none Nat))) 4)
            (SObj.vecL (24 : TypeId) 1 encS [ByteArray.mk #[(97 : UInt8)], ByteArray.mk #[(98 : UInt8)], ByteArray.mk #[(99 : UInt8)], ByteArray.mk #[(100 : UInt8)]]
             ByteArray.empty),
           pkA b1 grpE (gEmptied s ao_1 cap_1).1, Ent.mk (Loc.sl (some (Addr.mk d 0 (@none Nat))) 10) (SObj.vecL (29 : TypeId) 1 encI1 arr (0 : Int))]
          (SV.bool false)
        | false =>
         K (Frm.loop J :: Frm.blk 8 :: frm [] (bodyOf Try.f3) [1, 1, 1, 1, 1, 1, 1, 1, 1] [])
          (Sy.mk
           [SV.vec 0 ao (List.length bs) cap, SV.raw (u 1), SV.raw (u 2), SV.ptr 1 b 0, SV.ptr 2 b1 0, SV.raw (u 5),
            SV.ptr 3 d 0, SV.raw (u 7), SV.raw (u 8), SV.raw (u 9), SV.raw (u 10), SV.raw (u 11), SV.raw (u 12),
            SV.int IntKind.i64 (IntKind.wrap IntKind.i64 ((↑k : Int) + (1 : Int))),
            SV.str
             (match (gEmptied s ao_1 cap_1).2 with
             | some x => x
             | none => ByteArray.mk #[]),
            SV.bool (Option.isSome (gEmptied s ao_1 cap_1).2), SV.raw (u 16), SV.raw (u 17), SV.raw (u 18), SV.raw (u 19), SV.raw (u 20),
            SV.raw (u 21), SV.raw (u 22), SV.raw (u 23), SV.raw (u 24), SV.raw (u 25), SV.raw (u 26), SV.raw (u 27),
            SV.raw (u 28), SV.raw (u 29), SV.raw (u 30), SV.raw (u 31), SV.raw (u 32), SV.raw (u 33), SV.raw (u 34),
            SV.raw (u 35), SV.raw (u 36), SV.raw (u 37), SV.raw (u 38), SV.raw (u 39), SV.raw (u 40), SV.raw (u 41),
            SV.raw (u 42), SV.raw (u 43), SV.raw (u 44), SV.raw (u 45), SV.raw (u 46), SV.raw (u 47), SV.raw (u 48),
            SV.raw (u 49), SV.raw (u 50), SV.raw (u 51), SV.raw (u 52), SV.raw (u 53), SV.raw (u 54), SV.raw (u 55),
            SV.raw (u 56), SV.raw (u 57), SV.raw (u 58), SV.raw (u 59), SV.raw (u 60), SV.raw (u 61), SV.raw (u 62),
            SV.raw (u 63), SV.raw (u 64), SV.raw (u 65), SV.raw (u 66), SV.raw (u 67), SV.raw (u 68), SV.raw (u 69),
            SV.raw (u 70), SV.raw (u 71), SV.raw (u 72), SV.raw (u 73), SV.raw (u 74), SV.raw (u 75), SV.raw (u 76),
            SV.raw (u 77), SV.raw (u 78), SV.raw (u 79), SV.raw (u 80), SV.raw (u 81), SV.raw (u 82), SV.raw (u 83),
            SV.raw (u 84), SV.raw (u 85), SV.raw (u 86), SV.raw (u 87), SV.raw (u 88), SV.raw (u 89), SV.raw (u 90),
            SV.raw (u 91), SV.raw (u 92), SV.raw (u 93), SV.raw (u 94), SV.raw (u 95), SV.raw (u 96), SV.raw (u 97),
            SV.raw (u 98), SV.raw (u 99), SV.raw (u 100), SV.raw (u 101), SV.raw (u 102), SV.raw (u 103), SV.raw (u 104),
            SV.raw (u 105), SV.raw (u 106), SV.int IntKind.i64 (↑k : Int), SV.bool true, SV.int IntKind.i64 (↑k : Int),
            SV.int IntKind.i64 (IntKind.wrap IntKind.i64 ((↑k : Int) + (1 : Int))),
            SV.tuple
             [SV.str
              (match (gEmptied s ao_1 cap_1).2 with
              | some x => x
              | none => ByteArray.mk #[]),
              SV.bool (Option.isSome (gEmptied s ao_1 cap_1).2)],
            SV.ptr 2 b1 0,
            SV.tuple
             [SV.str
              (match (gEmptied s ao_1 cap_1).2 with
              | some x => x
              | none => ByteArray.mk #[]),
              SV.bool (Option.isSome (gEmptied s ao_1 cap_1).2)],
            SV.str
             (match (gEmptied s ao_1 cap_1).2 with
             | some x => x
             | none => ByteArray.mk #[]),
            SV.bool (Option.isSome (gEmptied s ao_1 cap_1).2), SV.bool (Option.isSome (gEmptied s ao_1 cap_1).2), SV.bool false, SV.raw (Value.tuple #[]), SV.raw (Value.tuple #[]),
            SV.raw (Value.tuple #[]), SV.raw (Value.tuple #[]), SV.raw (Value.tuple #[]), SV.bool false, SV.bool false, SV.int IntKind.i64 (↑k : Int), SV.bool ((↑k : Int) == (4 : Int)),
            SV.bool true, SV.bool (Option.isSome (gEmptied s ao_1 cap_1).2), SV.bool (Option.isSome (gEmptied s ao_1 cap_1).2), SV.bool false]
           [Ent.mk (Loc.sl ao cap) (SObj.roL 1 encU8 bs (0 : Int)),
            Ent.mk (Loc.sl (some (Addr.mk b 0 (@none Nat))) 4)
             (SObj.vecL (24 : TypeId) 1 encS [ByteArray.mk #[(97 : UInt8)], ByteArray.mk #[(98 : UInt8)], ByteArray.mk #[(99 : UInt8)], ByteArray.mk #[(100 : UInt8)]]
              ByteArray.empty),
            pkA b1 grpE (gEmptied s ao_1 cap_1).1, Ent.mk (Loc.sl (some (Addr.mk d 0 (@none Nat))) 10) (SObj.vecL (29 : TypeId) 1 encI1 arr (0 : Int))])
       | false =>
        K (Frm.loop J :: Frm.blk 8 :: frm [] (bodyOf Try.f3) [1, 1, 1, 1, 1, 1, 1, 1, 1] [])
         (Sy.mk
          [SV.vec 0 ao (List.length bs) cap, SV.raw (u 1), SV.raw (u 2), SV.ptr 1 b 0, SV.ptr 2 b1 0, SV.raw (u 5),
           SV.ptr 3 d 0, SV.raw (u 7), SV.raw (u 8), SV.raw (u 9), SV.raw (u 10), SV.raw (u 11), SV.raw (u 12),
           SV.int IntKind.i64 (IntKind.wrap IntKind.i64 ((↑k : Int) + (1 : Int))),
           SV.str
            (match (gEmptied s ao_1 cap_1).2 with
            | some x => x
            | none => ByteArray.mk #[]),
           SV.bool (Option.isSome (gEmptied s ao_1 cap_1).2), SV.raw (u 16), SV.raw (u 17), SV.raw (u 18), SV.raw (u 19), SV.raw (u 20),
           SV.raw (u 21), SV.raw (u 22), SV.raw (u 23), SV.raw (u 24), SV.raw (u 25), SV.raw (u 26), SV.raw (u 27),
           SV.raw (u 28), SV.raw (u 29), SV.raw (u 30), SV.raw (u 31), SV.raw (u 32), SV.raw (u 33), SV.raw (u 34),
           SV.raw (u 35), SV.raw (u 36), SV.raw (u 37), SV.raw (u 38), SV.raw (u 39), SV.raw (u 40), SV.raw (u 41),
           SV.raw (u 42), SV.raw (u 43), SV.raw (u 44), SV.raw (u 45), SV.raw (u 46), SV.raw (u 47), SV.raw (u 48),
           SV.raw (u 49), SV.raw (u 50), SV.raw (u 51), SV.raw (u 52), SV.raw (u 53), SV.raw (u 54), SV.raw (u 55),
           SV.raw (u 56), SV.raw (u 57), SV.raw (u 58), SV.raw (u 59), SV.raw (u 60), SV.raw (u 61), SV.raw (u 62),
           SV.raw (u 63), SV.raw (u 64), SV.raw (u 65), SV.raw (u 66), SV.raw (u 67), SV.raw (u 68), SV.raw (u 69),
           SV.raw (u 70), SV.raw (u 71), SV.raw (u 72), SV.raw (u 73), SV.raw (u 74), SV.raw (u 75), SV.raw (u 76),
           SV.raw (u 77), SV.raw (u 78), SV.raw (u 79), SV.raw (u 80), SV.raw (u 81), SV.raw (u 82), SV.raw (u 83),
           SV.raw (u 84), SV.raw (u 85), SV.raw (u 86), SV.raw (u 87), SV.raw (u 88), SV.raw (u 89), SV.raw (u 90),
           SV.raw (u 91), SV.raw (u 92), SV.raw (u 93), SV.raw (u 94), SV.raw (u 95), SV.raw (u 96), SV.raw (u 97),
           SV.raw (u 98), SV.raw (u 99), SV.raw (u 100), SV.raw (u 101), SV.raw (u 102), SV.raw (u 103), SV.raw (u 104),
           SV.raw (u 105), SV.raw (u 106), SV.int IntKind.i64 (↑k : Int), SV.bool true, SV.int IntKind.i64 (↑k : Int),
           SV.int IntKind.i64 (IntKind.wrap IntKind.i64 ((↑k : Int) + (1 : Int))),
           SV.tuple
            [SV.str
             (match (gEmptied s ao_1 cap_1).2 with
             | some x => x
             | none => ByteArray.mk #[]),
             SV.bool (Option.isSome (gEmptied s ao_1 cap_1).2)],
           SV.ptr 2 b1 0,
           SV.tuple
            [SV.str
             (match (gEmptied s ao_1 cap_1).2 with
             | some x => x
             | none => ByteArray.mk #[]),
             SV.bool (Option.isSome (gEmptied s ao_1 cap_1).2)],
           SV.str
            (match (gEmptied s ao_1 cap_1).2 with
            | some x => x
            | none => ByteArray.mk #[]),
           SV.bool (Option.isSome (gEmptied s ao_1 cap_1).2), SV.bool (Option.isSome (gEmptied s ao_1 cap_1).2), SV.bool false, SV.raw (Value.tuple #[]), SV.raw (Value.tuple #[]),
           SV.raw (Value.tuple #[]), SV.raw (Value.tuple #[]), SV.raw (Value.tuple #[]), SV.bool false, SV.bool false, SV.int IntKind.i64 (↑k : Int), SV.bool ((↑k : Int) == (4 : Int)),
           SV.bool false, SV.raw (Value.tuple #[]), SV.bool false, SV.bool false]
          [Ent.mk (Loc.sl ao cap) (SObj.roL 1 encU8 bs (0 : Int)),
           Ent.mk (Loc.sl (some (Addr.mk b 0 (@none Nat))) 4)
            (SObj.vecL (24 : TypeId) 1 encS [ByteArray.mk #[(97 : UInt8)], ByteArray.mk #[(98 : UInt8)], ByteArray.mk #[(99 : UInt8)], ByteArray.mk #[(100 : UInt8)]]
             ByteArray.empty),
           pkA b1 grpE (gEmptied s ao_1 cap_1).1, Ent.mk (Loc.sl (some (Addr.mk d 0 (@none Nat))) 10) (SObj.vecL (29 : TypeId) 1 encI1 arr (0 : Int))])
| false =>
 N
  [Ent.mk (Loc.sl ao cap) (SObj.roL 1 encU8 bs (0 : Int)),
   Ent.mk (Loc.sl (some (Addr.mk b 0 (@none Nat))) 4)
    (SObj.vecL (24 : TypeId) 1 encS [ByteArray.mk #[(97 : UInt8)], ByteArray.mk #[(98 : UInt8)], ByteArray.mk #[(99 : UInt8)], ByteArray.mk #[(100 : UInt8)]] ByteArray.empty),
   pkA b1 grpE s, Ent.mk (Loc.sl (some (Addr.mk d 0 (@none Nat))) 10) (SObj.vecL (29 : TypeId) 1 encI1 arr (0 : Int))]
  (SV.bool true)) := by kernel_rfl
end Go.Proofs.Ytihajdkipkfiiaa
