import Derived.Test.YtkcmgcoppecfpaaMgLoopOnce12
import Derived.Test.YtkcmgcoppecfpaaMgLoopOnce5
import Derived.Test.YtkcmgcoppecfpaaMgLoopOnce4
import Derived.ChangeSlices
import Derived.OpenShut
import Derived.Carry
import Derived.ProofKit
import Derived.Deep.Grids
import Derived.Deep.Strs
set_option linter.unusedVariables false
set_option linter.unusedSimpArgs false
set_option linter.unnecessarySimpa false
set_option maxHeartbeats 0
set_option maxRecDepth 100000
namespace Go.Proofs.Ytkcmgcoppecfpaa
open Go Go.RowKit

theorem l1_start (K : List Frm → Sy → Prop) (N : List Ent → SV → Prop) (ao0 : Option Addr) (cap0 : Nat) (xs : List Int) (ao1 : Option Addr) (cap1 : Nat) (bs : List Int) : (run Try.prog loT false [] K (retP Try.prog Try.f4.results.toList N) 1500 [.code (bodyOf Try.f4)] ⟨padTo 124 [.vec 0 ao0 xs.length cap0, .vec 1 ao1 bs.length cap1], [⟨.sl ao0 cap0, .roL 1 encU8L xs 0⟩, ⟨.sl ao1 cap1, .roL 1 encU8L bs 0⟩]⟩) = (
true = true ∧
 match decide ((↑(List.length xs) : Int) > (50 : Int)) with
 | true => N [Ent.mk (Loc.sl ao0 cap0) (SObj.roL 1 encU8L xs (0 : Int)), Ent.mk (Loc.sl ao1 cap1) (SObj.roL 1 encU8L bs (0 : Int))] (SV.bool true)
 | false =>
  match decide ((↑(List.length bs) : Int) > (60 : Int)) with
  | true => N [Ent.mk (Loc.sl ao0 cap0) (SObj.roL 1 encU8L xs (0 : Int)), Ent.mk (Loc.sl ao1 cap1) (SObj.roL 1 encU8L bs (0 : Int))] (SV.bool true)
  | false =>
   true = true ∧
    ∀ (b qb bm : Nat),
     K (frm [] (bodyOf Try.f4) [1, 1, 1, 1, 1, 0, 1, 0] [])
      (Sy.mk (SV.vec 0 ao0 (List.length xs) cap0 :: (SV.vec 1 ao1 (List.length bs) cap1 :: (SV.raw (Value.tuple #[]) :: (SV.raw (Value.tuple #[]) :: (SV.bool false :: (SV.ptr 2 b 0 :: (SV.str (ByteArray.mk #[(97 : UInt8), (98 : UInt8), (99 : UInt8), (100 : UInt8), (101 : UInt8), (102 : UInt8), (103 : UInt8), (104 : UInt8), (105 : UInt8), (106 : UInt8), (107 : UInt8), (108 : UInt8), (109 : UInt8), (110 : UInt8), (111 : UInt8), (112 : UInt8), (113 : UInt8), (114 : UInt8), (115 : UInt8), (116 : UInt8), (117 : UInt8), (118 : UInt8), (119 : UInt8), (120 : UInt8), (121 : UInt8), (122 : UInt8), (65 : UInt8), (66 : UInt8), (67 : UInt8), (68 : UInt8), (69 : UInt8), (70 : UInt8), (71 : UInt8), (72 : UInt8), (73 : UInt8), (74 : UInt8), (75 : UInt8), (76 : UInt8), (77 : UInt8), (78 : UInt8), (79 : UInt8), (80 : UInt8), (81 : UInt8), (82 : UInt8), (83 : UInt8), (84 : UInt8), (85 : UInt8), (86 : UInt8), (87 : UInt8), (88 : UInt8), (89 : UInt8), (90 : UInt8)]) :: (SV.int IntKind.i64 (0 : Int) :: (rawE (SV.bool true :: (SV.bool false :: (SV.vec 0 ao0 (List.length xs) cap0 :: (SV.int IntKind.i64 (↑(List.length xs) : Int) :: (SV.bool (decide ((↑(List.length xs) : Int) > (50 : Int))) :: (SV.bool false :: (SV.vec 1 ao1 (List.length bs) cap1 :: (SV.int IntKind.i64 (↑(List.length bs) : Int) :: (SV.bool (decide ((↑(List.length bs) : Int) > (60 : Int))) :: (SV.bool false :: (SV.ptr 2 b 0 :: (rawE [] 97)))))))))))) 8)))))))))
       [Ent.mk (Loc.sl ao0 cap0) (SObj.roL 1 encU8L xs (0 : Int)), Ent.mk (Loc.sl ao1 cap1) (SObj.roL 1 encU8L bs (0 : Int)), pkA b loE (LO.mk (QUE.mk [] 0) qb bm [])])) := by kernel_rfl


theorem l1_set (K : List Frm → Sy → Prop) (N : List Ent → SV → Prop) (J : Act → World → Prop) (ao0 : Option Addr) (cap0 : Nat) (xs : List Int) (ao1 : Option Addr) (cap1 : Nat) (bs : List Int) (b : Nat) (s : LO) (nm : ByteArray) (i : Nat) (u : Nat → Value) : (run Try.prog loT false [] K (retP Try.prog Try.f4.results.toList N) 900 (frm [J] (bodyOf Try.f4) [1, 1, 1, 1, 1, 0, 1, 0, 0] []) ⟨mkT u 124 0 [(0, .vec 0 ao0 xs.length cap0), (1, .vec 1 ao1 bs.length cap1), (4, .bool false), (5, .ptr 2 b 0), (6, .str nm), (7, .int .i64 (i : Int))], [⟨.sl ao0 cap0, .roL 1 encU8L xs 0⟩, ⟨.sl ao1 cap1, .roL 1 encU8L bs 0⟩, pkA b loE s]⟩) = (
match decide ((↑i : Int) < (↑(List.length xs) : Int)) with
| true =>
 ((0 : Int) ≤ (↑i : Int) ∧ (↑i : Int) ≤ IntKind.wrap IntKind.i64 ((↑i : Int) + (1 : Int)) ∧ IntKind.wrap IntKind.i64 ((↑i : Int) + (1 : Int)) ≤ (↑(ByteArray.size nm) : Int)) ∧
  (ao0 = ao0 ∧ cap0 = cap0 ∧ List.length xs = List.length xs ∧ (0 : Int) ≤ (↑i : Int) ∧ (↑i : Int) < (↑(List.length xs) : Int)) ∧
   (Addr.blkD ao0 = Addr.blkD ao0 ∧ Addr.offD ao0 = Addr.offD ao0 ∧ 1 = 1 ∧ Int.toNat (↑i : Int) < List.length xs) ∧
    true = true ∧
     b = b ∧
      ∃ (h : LO = LO),
       AdtIs (fun (s : LO) (b : Nat) ↦ packs (loE s b)) loE ∧
        loOk s ∧
         K (Frm.loop J :: Frm.blk 0 :: frm [] (bodyOf Try.f4) [1, 1, 1, 1, 1, 1] [])
          (Sy.mk (SV.vec 0 ao0 (List.length xs) cap0 :: (SV.vec 1 ao1 (List.length bs) cap1 :: (SV.raw (u 2) :: (SV.raw (u 3) :: (SV.bool false :: (SV.ptr 2 b 0 :: (SV.str nm :: (SV.int IntKind.i64 (IntKind.wrap IntKind.i64 ((↑i : Int) + (1 : Int))) :: (rawR u 8 (SV.int IntKind.i64 (↑i : Int) :: (SV.vec 0 ao0 (List.length xs) cap0 :: (SV.int IntKind.i64 (↑(List.length xs) : Int) :: (SV.bool true :: (SV.int IntKind.i64 (↑i : Int) :: (SV.int IntKind.i64 (IntKind.wrap IntKind.i64 ((↑i : Int) + (1 : Int))) :: (SV.ptr 2 b 0 :: (SV.str nm :: (SV.int IntKind.i64 (↑i : Int) :: (SV.int IntKind.i64 (↑i : Int) :: (SV.int IntKind.i64 (IntKind.wrap IntKind.i64 ((↑i : Int) + (1 : Int))) :: (SV.str (ByteArray.extract nm (Int.toNat (↑i : Int)) (Int.toNat (IntKind.wrap IntKind.i64 ((↑i : Int) + (1 : Int))))) :: (SV.vec 0 ao0 (List.length xs) cap0 :: (SV.int IntKind.i64 (↑i : Int) :: (SV.eptr 0 (Addr.blkD ao0) (Addr.offD ao0) 1 (Int.toNat (↑i : Int)) 0 :: (SV.int IntKind.u8 (List.getD xs (Int.toNat (↑i : Int)) (0 : Int)) :: (SV.int IntKind.i64 (IntKind.wrap IntKind.i64 (List.getD xs (Int.toNat (↑i : Int)) (0 : Int))) :: (SV.tuple [] :: (rawR u 45 [] 79))))))))))))))))))) 19)))))))))
           [Ent.mk (Loc.sl ao0 cap0) (SObj.roL 1 encU8L xs (0 : Int)), Ent.mk (Loc.sl ao1 cap1) (SObj.roL 1 encU8L bs (0 : Int)),
            pkA b loE
             (lSet s (ByteArray.extract nm (Int.toNat (↑i : Int)) (Int.toNat (IntKind.wrap IntKind.i64 ((↑i : Int) + (1 : Int))))) (ByteArray.mk #[(116 : UInt8)])
              (IntKind.wrap IntKind.i64 (List.getD xs (Int.toNat (↑i : Int)) (0 : Int))))])
| false =>
 K (frm [] (bodyOf Try.f4) [1, 1, 1, 1, 1, 1, 1, 1, 1, 0, 1, 0] [])
  (Sy.mk (SV.vec 0 ao0 (List.length xs) cap0 :: (SV.vec 1 ao1 (List.length bs) cap1 :: (SV.raw (u 2) :: (SV.raw (u 3) :: (SV.bool false :: (SV.ptr 2 b 0 :: (SV.str nm :: (SV.int IntKind.i64 (↑i : Int) :: (SV.int IntKind.i64 (0 : Int) :: (SV.int IntKind.i64 (0 : Int) :: (SV.int IntKind.i64 (-1 : Int) :: (SV.int IntKind.i64 (0 : Int) :: (rawR u 12 (SV.int IntKind.i64 (↑i : Int) :: (SV.vec 0 ao0 (List.length xs) cap0 :: (SV.int IntKind.i64 (↑(List.length xs) : Int) :: (SV.bool false :: (rawR u 31 [] 93))))) 15)))))))))))))
   [Ent.mk (Loc.sl ao0 cap0) (SObj.roL 1 encU8L xs (0 : Int)), Ent.mk (Loc.sl ao1 cap1) (SObj.roL 1 encU8L bs (0 : Int)), pkA b loE s])) := by kernel_rfl


theorem l1_main (K : List Frm → Sy → Prop) (N : List Ent → SV → Prop) (J : Act → World → Prop) (ao0 : Option Addr) (cap0 : Nat) (xs : List Int) (ao1 : Option Addr) (cap1 : Nat) (bs : List Int) (b : Nat) (s : LO) (now : Int) (came i : Nat) (u : Nat → Value) : (run Try.prog loT true [] K (retP Try.prog Try.f4.results.toList N) 900 (frm [J] (bodyOf Try.f4) [1, 1, 1, 1, 1, 1, 1, 1, 1, 0, 1, 0, 0] []) ⟨mkT u 124 0 [(0, .vec 0 ao0 xs.length cap0), (1, .vec 1 ao1 bs.length cap1), (4, .bool false), (5, .ptr 2 b 0), (8, .int .i64 now), (9, .int .i64 (came : Int)), (10, .int .i64 (-1)), (11, .int .i64 (i : Int))], [⟨.sl ao0 cap0, .roL 1 encU8L xs 0⟩, ⟨.sl ao1 cap1, .roL 1 encU8L bs 0⟩, pkA b loE s]⟩) = (
match decide ((↑i : Int) ≤ (↑(List.length bs) : Int)) with
| true =>
 true = true ∧
  b = b ∧
   ∃ (h : LO = LO),
    AdtIs (fun (s : LO) (b : Nat) ↦ packs (loE s b)) loE ∧
     loOk (cast h s) ∧
      ∀ (ao : Option Addr) (cap : Nat),
       K
        (frm [J] (bodyOf Try.f4)
         [1, 1, 1, 1, 1, 1, 1, 1, 1, 0, 1, 0, 0, 1, 0, 0,
          1, 0, 1, 0]
         [])
        (Sy.mk (SV.vec 0 ao0 (List.length xs) cap0 :: (SV.vec 1 ao1 (List.length bs) cap1 :: (SV.raw (u 2) :: (SV.raw (u 3) :: (SV.bool false :: (SV.ptr 2 b 0 :: (SV.raw (u 6) :: (SV.raw (u 7) :: (SV.int IntKind.i64 now :: (SV.int IntKind.i64 (↑came : Int) :: (SV.int IntKind.i64 (-1 : Int) :: (SV.int IntKind.i64 (↑i : Int) :: (SV.vec 3 ao (List.length (duesTo s.4 now)) cap :: (SV.int IntKind.i64 (0 : Int) :: (rawR u 14 (SV.int IntKind.i64 (↑i : Int) :: (SV.vec 1 ao1 (List.length bs) cap1 :: (SV.int IntKind.i64 (↑(List.length bs) : Int) :: (SV.bool true :: (SV.raw (u 49) :: (SV.raw (u 50) :: (SV.ptr 2 b 0 :: (SV.int IntKind.i64 now :: (SV.vec 3 ao (List.length (duesTo s.4 now)) cap :: (rawR u 54 [] 70)))))))))) 31)))))))))))))))
         [Ent.mk (Loc.sl ao0 cap0) (SObj.roL 1 encU8L xs (0 : Int)), Ent.mk (Loc.sl ao1 cap1) (SObj.roL 1 encU8L bs (0 : Int)), pkA b loE (LO.mk s.1 s.2 s.3 (lateT s.4 now)),
          Ent.mk (Loc.sl ao cap) (SObj.vecL (72 : TypeId) 3 encDU (duesTo s.4 now) (DU.mk ByteArray.empty ByteArray.empty (0 : Int)))])
| false => N [Ent.mk (Loc.sl ao0 cap0) (SObj.roL 1 encU8L xs (0 : Int)), Ent.mk (Loc.sl ao1 cap1) (SObj.roL 1 encU8L bs (0 : Int)), pkA b loE s] (SV.bool true)) := by kernel_rfl


theorem l1_19 (K : List Frm → Sy → Prop) (N : List Ent → SV → Prop) (J0 J1 : Act → World → Prop) (ao0 : Option Addr) (cap0 : Nat) (xs : List Int) (ao1 : Option Addr) (cap1 : Nat) (bs : List Int) (b : Nat) (s : LO) (now last : Int) (came i k : Nat) (ao : Option Addr) (cap : Nat) (ds : List DU) (u : Nat → Value) : (run Try.prog loT true [] K (retP Try.prog Try.f4.results.toList N) 900 (frm [J0, J1] (bodyOf Try.f4) [1, 1, 1, 1, 1, 1, 1, 1, 1, 0, 1, 0, 0, 1, 0, 0, 1, 0, 1, 0, 0] []) ⟨mkT u 124 0 [(0, .vec 0 ao0 xs.length cap0), (1, .vec 1 ao1 bs.length cap1), (4, .bool false), (5, .ptr 2 b 0), (8, .int .i64 now), (9, .int .i64 (came : Int)), (10, .int .i64 last), (11, .int .i64 (i : Int)), (12, .vec 3 ao ds.length cap), (13, .int .i64 (k : Int))], [⟨.sl ao0 cap0, .roL 1 encU8L xs 0⟩, ⟨.sl ao1 cap1, .roL 1 encU8L bs 0⟩, pkA b loE s, ⟨.sl ao cap, .vecL 72 3 encDU ds DU.zero⟩]⟩) = (
match decide ((↑k : Int) < (↑(List.length ds) : Int)) with
| true =>
 (ao = ao ∧ cap = cap ∧ List.length ds = List.length ds ∧ (0 : Int) ≤ (↑k : Int) ∧ (↑k : Int) < (↑(List.length ds) : Int)) ∧
  (Addr.blkD ao = Addr.blkD ao ∧ Addr.offD ao = Addr.offD ao ∧ 3 = 3 ∧ Int.toNat (↑k : Int) < List.length ds) ∧
   match decide ((List.getD ds (Int.toNat (↑k : Int)) (DU.mk ByteArray.empty ByteArray.empty (0 : Int))).3 > now) with
   | true =>
    N
     [Ent.mk (Loc.sl ao0 cap0) (SObj.roL 1 encU8L xs (0 : Int)), Ent.mk (Loc.sl ao1 cap1) (SObj.roL 1 encU8L bs (0 : Int)), pkA b loE s,
      Ent.mk (Loc.sl ao cap) (SObj.vecL (72 : TypeId) 3 encDU ds (DU.mk ByteArray.empty ByteArray.empty (0 : Int)))]
     (SV.bool false)
   | false =>
    (ao = ao ∧ cap = cap ∧ List.length ds = List.length ds ∧ (0 : Int) ≤ (↑k : Int) ∧ (↑k : Int) < (↑(List.length ds) : Int)) ∧
     (Addr.blkD ao = Addr.blkD ao ∧ Addr.offD ao = Addr.offD ao ∧ 3 = 3 ∧ Int.toNat (↑k : Int) < List.length ds) ∧
      match decide ((List.getD ds (Int.toNat (↑k : Int)) (DU.mk ByteArray.empty ByteArray.empty (0 : Int))).3 < last) with
      | true =>
       N
        [Ent.mk (Loc.sl ao0 cap0) (SObj.roL 1 encU8L xs (0 : Int)), Ent.mk (Loc.sl ao1 cap1) (SObj.roL 1 encU8L bs (0 : Int)), pkA b loE s,
         Ent.mk (Loc.sl ao cap) (SObj.vecL (72 : TypeId) 3 encDU ds (DU.mk ByteArray.empty ByteArray.empty (0 : Int)))]
        (SV.bool false)
      | false =>
       (ao = ao ∧ cap = cap ∧ List.length ds = List.length ds ∧ (0 : Int) ≤ (↑k : Int) ∧ (↑k : Int) < (↑(List.length ds) : Int)) ∧
        (Addr.blkD ao = Addr.blkD ao ∧ Addr.offD ao = Addr.offD ao ∧ 3 = 3 ∧ Int.toNat (↑k : Int) < List.length ds) ∧
         K
          (Frm.loop J1 ::
           Frm.blk 4 ::
            frm [J0] (bodyOf Try.f4)
             [1, 1, 1, 1, 1, 1, 1, 1, 1, 0, 1, 0, 0, 1, 0,
              0, 1, 1]
             [])
          (Sy.mk (SV.vec 0 ao0 (List.length xs) cap0 :: (SV.vec 1 ao1 (List.length bs) cap1 :: (SV.raw (u 2) :: (SV.raw (u 3) :: (SV.bool false :: (SV.ptr 2 b 0 :: (SV.raw (u 6) :: (SV.raw (u 7) :: (SV.int IntKind.i64 now :: (SV.int IntKind.i64 (IntKind.wrap IntKind.i64 ((↑came : Int) + (1 : Int))) :: (SV.int IntKind.i64 (List.getD ds (Int.toNat (↑k : Int)) (DU.mk ByteArray.empty ByteArray.empty (0 : Int))).3 :: (SV.int IntKind.i64 (↑i : Int) :: (SV.vec 3 ao (List.length ds) cap :: (SV.int IntKind.i64 (IntKind.wrap IntKind.i64 ((↑k : Int) + (1 : Int))) :: (rawR u 14 (SV.int IntKind.i64 (↑k : Int) :: (SV.vec 3 ao (List.length ds) cap :: (SV.int IntKind.i64 (↑(List.length ds) : Int) :: (SV.bool true :: (SV.int IntKind.i64 (↑k : Int) :: (SV.int IntKind.i64 (IntKind.wrap IntKind.i64 ((↑k : Int) + (1 : Int))) :: (SV.vec 3 ao (List.length ds) cap :: (SV.int IntKind.i64 (↑k : Int) :: (SV.eptr 3 (Addr.blkD ao) (Addr.offD ao) 3 (Int.toNat (↑k : Int)) 0 :: (SV.eptr 3 (Addr.blkD ao) (Addr.offD ao) 3 (Int.toNat (↑k : Int)) 2 :: (SV.int IntKind.i64 (List.getD ds (Int.toNat (↑k : Int)) (DU.mk ByteArray.empty ByteArray.empty (0 : Int))).3 :: (SV.int IntKind.i64 now :: (SV.bool (decide ((List.getD ds (Int.toNat (↑k : Int)) (DU.mk ByteArray.empty ByteArray.empty (0 : Int))).3 > now)) :: (SV.bool false :: (SV.vec 3 ao (List.length ds) cap :: (SV.int IntKind.i64 (↑k : Int) :: (SV.eptr 3 (Addr.blkD ao) (Addr.offD ao) 3 (Int.toNat (↑k : Int)) 0 :: (SV.eptr 3 (Addr.blkD ao) (Addr.offD ao) 3 (Int.toNat (↑k : Int)) 2 :: (SV.int IntKind.i64 (List.getD ds (Int.toNat (↑k : Int)) (DU.mk ByteArray.empty ByteArray.empty (0 : Int))).3 :: (SV.int IntKind.i64 last :: (SV.bool (decide ((List.getD ds (Int.toNat (↑k : Int)) (DU.mk ByteArray.empty ByteArray.empty (0 : Int))).3 < last)) :: (SV.bool false :: (SV.vec 3 ao (List.length ds) cap :: (SV.int IntKind.i64 (↑k : Int) :: (SV.eptr 3 (Addr.blkD ao) (Addr.offD ao) 3 (Int.toNat (↑k : Int)) 0 :: (SV.eptr 3 (Addr.blkD ao) (Addr.offD ao) 3 (Int.toNat (↑k : Int)) 2 :: (SV.int IntKind.i64 (List.getD ds (Int.toNat (↑k : Int)) (DU.mk ByteArray.empty ByteArray.empty (0 : Int))).3 :: (SV.int IntKind.i64 (↑came : Int) :: (SV.int IntKind.i64 (IntKind.wrap IntKind.i64 ((↑came : Int) + (1 : Int))) :: (rawR u 83 [] 41)))))))))))))))))))))))))))))) 40)))))))))))))))
           [Ent.mk (Loc.sl ao0 cap0) (SObj.roL 1 encU8L xs (0 : Int)), Ent.mk (Loc.sl ao1 cap1) (SObj.roL 1 encU8L bs (0 : Int)), pkA b loE s,
            Ent.mk (Loc.sl ao cap) (SObj.vecL (72 : TypeId) 3 encDU ds (DU.mk ByteArray.empty ByteArray.empty (0 : Int)))])
| false =>
 K
  (frm [J0] (bodyOf Try.f4)
   [1, 1, 1, 1, 1, 1, 1, 1, 1, 0, 1, 0, 0, 1, 0, 0, 1,
    1, 1, 0, 1, 0]
   [])
  (Sy.mk (SV.vec 0 ao0 (List.length xs) cap0 :: (SV.vec 1 ao1 (List.length bs) cap1 :: (SV.raw (u 2) :: (SV.raw (u 3) :: (SV.bool false :: (SV.ptr 2 b 0 :: (SV.raw (u 6) :: (SV.raw (u 7) :: (SV.int IntKind.i64 now :: (SV.int IntKind.i64 (↑came : Int) :: (SV.int IntKind.i64 last :: (SV.int IntKind.i64 (↑i : Int) :: (SV.vec 3 ao (List.length ds) cap :: (SV.int IntKind.i64 (↑k : Int) :: (SV.int IntKind.i64 (0 : Int) :: (SV.int IntKind.i64 (0 : Int) :: (rawR u 16 (SV.int IntKind.i64 (↑k : Int) :: (SV.vec 3 ao (List.length ds) cap :: (SV.int IntKind.i64 (↑(List.length ds) : Int) :: (SV.bool false :: (rawR u 58 [] 66))))) 38)))))))))))))))))
   [Ent.mk (Loc.sl ao0 cap0) (SObj.roL 1 encU8L xs (0 : Int)), Ent.mk (Loc.sl ao1 cap1) (SObj.roL 1 encU8L bs (0 : Int)), pkA b loE s,
    Ent.mk (Loc.sl ao cap) (SObj.vecL (72 : TypeId) 3 encDU ds (DU.mk ByteArray.empty ByteArray.empty (0 : Int)))])) := by kernel_rfl


theorem l1_27 (K : List Frm → Sy → Prop) (N : List Ent → SV → Prop) (J0 J1 : Act → World → Prop) (ao0 : Option Addr) (cap0 : Nat) (xs : List Int) (ao1 : Option Addr) (cap1 : Nat) (bs : List Int) (b : Nat) (s : LO) (now last : Int) (came i k : Nat) (ao : Option Addr) (cap : Nat) (ds : List DU) (due : Nat) (u : Nat → Value) : (run Try.prog loT true [] K (retP Try.prog Try.f4.results.toList N) 900 (frm [J0, J1] (bodyOf Try.f4) [1, 1, 1, 1, 1, 1, 1, 1, 1, 0, 1, 0, 0, 1, 0, 0, 1, 1, 1, 0, 1, 0, 0] []) ⟨mkT u 124 0 [(0, .vec 0 ao0 xs.length cap0), (1, .vec 1 ao1 bs.length cap1), (4, .bool false), (5, .ptr 2 b 0), (8, .int .i64 now), (9, .int .i64 (came : Int)), (10, .int .i64 last), (11, .int .i64 (i : Int)), (12, .vec 3 ao ds.length cap), (14, .int .i64 (due : Int)), (15, .int .i64 (k : Int))], [⟨.sl ao0 cap0, .roL 1 encU8L xs 0⟩, ⟨.sl ao1 cap1, .roL 1 encU8L bs 0⟩, pkA b loE s, ⟨.sl ao cap, .vecL 72 3 encDU ds DU.zero⟩]⟩) = (
match decide ((↑k : Int) < (↑(List.length xs) : Int)) with
| true =>
 (ao0 = ao0 ∧ cap0 = cap0 ∧ List.length xs = List.length xs ∧ (0 : Int) ≤ (↑k : Int) ∧ (↑k : Int) < (↑(List.length xs) : Int)) ∧
  (Addr.blkD ao0 = Addr.blkD ao0 ∧ Addr.offD ao0 = Addr.offD ao0 ∧ 1 = 1 ∧ Int.toNat (↑k : Int) < List.length xs) ∧
   match decide (IntKind.wrap IntKind.i64 (List.getD xs (Int.toNat (↑k : Int)) (0 : Int)) ≤ now) with
   | true =>
    K
     (Frm.loop J1 ::
      Frm.blk 6 ::
       frm [J0] (bodyOf Try.f4)
        [1, 1, 1, 1, 1, 1, 1, 1, 1, 0, 1, 0, 0, 1, 0, 0,
         1, 1, 1, 1]
        [])
     (Sy.mk (SV.vec 0 ao0 (List.length xs) cap0 :: (SV.vec 1 ao1 (List.length bs) cap1 :: (SV.raw (u 2) :: (SV.raw (u 3) :: (SV.bool false :: (SV.ptr 2 b 0 :: (SV.raw (u 6) :: (SV.raw (u 7) :: (SV.int IntKind.i64 now :: (SV.int IntKind.i64 (↑came : Int) :: (SV.int IntKind.i64 last :: (SV.int IntKind.i64 (↑i : Int) :: (SV.vec 3 ao (List.length ds) cap :: (SV.raw (u 13) :: (SV.int IntKind.i64 (IntKind.wrap IntKind.i64 ((↑due : Int) + (1 : Int))) :: (SV.int IntKind.i64 (IntKind.wrap IntKind.i64 ((↑k : Int) + (1 : Int))) :: (rawR u 16 (SV.int IntKind.i64 (↑k : Int) :: (SV.vec 0 ao0 (List.length xs) cap0 :: (SV.int IntKind.i64 (↑(List.length xs) : Int) :: (SV.bool true :: (SV.int IntKind.i64 (↑k : Int) :: (SV.int IntKind.i64 (IntKind.wrap IntKind.i64 ((↑k : Int) + (1 : Int))) :: (SV.vec 0 ao0 (List.length xs) cap0 :: (SV.int IntKind.i64 (↑k : Int) :: (SV.eptr 0 (Addr.blkD ao0) (Addr.offD ao0) 1 (Int.toNat (↑k : Int)) 0 :: (SV.int IntKind.u8 (List.getD xs (Int.toNat (↑k : Int)) (0 : Int)) :: (SV.int IntKind.i64 (IntKind.wrap IntKind.i64 (List.getD xs (Int.toNat (↑k : Int)) (0 : Int))) :: (SV.int IntKind.i64 now :: (SV.bool true :: (SV.int IntKind.i64 (↑due : Int) :: (SV.int IntKind.i64 (IntKind.wrap IntKind.i64 ((↑due : Int) + (1 : Int))) :: (rawR u 98 [] 26)))))))))))))))) 67)))))))))))))))))
      [Ent.mk (Loc.sl ao0 cap0) (SObj.roL 1 encU8L xs (0 : Int)), Ent.mk (Loc.sl ao1 cap1) (SObj.roL 1 encU8L bs (0 : Int)), pkA b loE s,
       Ent.mk (Loc.sl ao cap) (SObj.vecL (72 : TypeId) 3 encDU ds (DU.mk ByteArray.empty ByteArray.empty (0 : Int)))])
   | false =>
    K
     (Frm.loop J1 ::
      Frm.blk 6 ::
       frm [J0] (bodyOf Try.f4)
        [1, 1, 1, 1, 1, 1, 1, 1, 1, 0, 1, 0, 0, 1, 0, 0,
         1, 1, 1, 1]
        [])
     (Sy.mk (SV.vec 0 ao0 (List.length xs) cap0 :: (SV.vec 1 ao1 (List.length bs) cap1 :: (SV.raw (u 2) :: (SV.raw (u 3) :: (SV.bool false :: (SV.ptr 2 b 0 :: (SV.raw (u 6) :: (SV.raw (u 7) :: (SV.int IntKind.i64 now :: (SV.int IntKind.i64 (↑came : Int) :: (SV.int IntKind.i64 last :: (SV.int IntKind.i64 (↑i : Int) :: (SV.vec 3 ao (List.length ds) cap :: (SV.raw (u 13) :: (SV.int IntKind.i64 (↑due : Int) :: (SV.int IntKind.i64 (IntKind.wrap IntKind.i64 ((↑k : Int) + (1 : Int))) :: (rawR u 16 (SV.int IntKind.i64 (↑k : Int) :: (SV.vec 0 ao0 (List.length xs) cap0 :: (SV.int IntKind.i64 (↑(List.length xs) : Int) :: (SV.bool true :: (SV.int IntKind.i64 (↑k : Int) :: (SV.int IntKind.i64 (IntKind.wrap IntKind.i64 ((↑k : Int) + (1 : Int))) :: (SV.vec 0 ao0 (List.length xs) cap0 :: (SV.int IntKind.i64 (↑k : Int) :: (SV.eptr 0 (Addr.blkD ao0) (Addr.offD ao0) 1 (Int.toNat (↑k : Int)) 0 :: (SV.int IntKind.u8 (List.getD xs (Int.toNat (↑k : Int)) (0 : Int)) :: (SV.int IntKind.i64 (IntKind.wrap IntKind.i64 (List.getD xs (Int.toNat (↑k : Int)) (0 : Int))) :: (SV.int IntKind.i64 now :: (SV.bool false :: (rawR u 96 [] 28)))))))))))))) 67)))))))))))))))))
      [Ent.mk (Loc.sl ao0 cap0) (SObj.roL 1 encU8L xs (0 : Int)), Ent.mk (Loc.sl ao1 cap1) (SObj.roL 1 encU8L bs (0 : Int)), pkA b loE s,
       Ent.mk (Loc.sl ao cap) (SObj.vecL (72 : TypeId) 3 encDU ds (DU.mk ByteArray.empty ByteArray.empty (0 : Int)))])
| false =>
 match (↑came : Int) != (↑due : Int) with
 | true =>
  true = true ∧
   true = true ∧
    true = true ∧
     true = true ∧
      N
       [Ent.mk (Loc.sl ao0 cap0) (SObj.roL 1 encU8L xs (0 : Int)), Ent.mk (Loc.sl ao1 cap1) (SObj.roL 1 encU8L bs (0 : Int)), pkA b loE s,
        Ent.mk (Loc.sl ao cap) (SObj.vecL (72 : TypeId) 3 encDU ds (DU.mk ByteArray.empty ByteArray.empty (0 : Int)))]
       (SV.bool false)
 | false =>
  match decide ((↑(List.length ds) : Int) > (0 : Int)) with
  | true =>
   true = true ∧
    b = b ∧
     ∃ (h : LO = LO),
      AdtIs (fun (s : LO) (b : Nat) ↦ packs (loE s b)) loE ∧
       loOk s ∧
        match decide (soonT s.4 ≤ now) with
        | true =>
         N
          [Ent.mk (Loc.sl ao0 cap0) (SObj.roL 1 encU8L xs (0 : Int)), Ent.mk (Loc.sl ao1 cap1) (SObj.roL 1 encU8L bs (0 : Int)), pkA b loE s,
           Ent.mk (Loc.sl ao cap) (SObj.vecL (72 : TypeId) 3 encDU ds (DU.mk ByteArray.empty ByteArray.empty (0 : Int)))]
          (SV.bool false)
        | false =>
         match decide ((↑i : Int) < (↑(List.length bs) : Int)) with
         | true =>
          (ao1 = ao1 ∧ cap1 = cap1 ∧ List.length bs = List.length bs ∧ (0 : Int) ≤ (↑i : Int) ∧ (↑i : Int) < (↑(List.length bs) : Int)) ∧
           (Addr.blkD ao1 = Addr.blkD ao1 ∧ Addr.offD ao1 = Addr.offD ao1 ∧ 1 = 1 ∧ Int.toNat (↑i : Int) < List.length bs) ∧
            (32 : Int) ≠ (0 : Int) ∧
             K
              (Frm.loop J0 ::
               Frm.blk 2 :: frm [] (bodyOf Try.f4) [1, 1, 1, 1, 1, 1, 1, 1, 1, 1] [])
              (Sy.mk (SV.vec 0 ao0 (List.length xs) cap0 :: (SV.vec 1 ao1 (List.length bs) cap1 :: (SV.raw (u 2) :: (SV.raw (u 3) :: (SV.bool false :: (SV.ptr 2 b 0 :: (SV.raw (u 6) :: (SV.raw (u 7) :: (SV.int IntKind.i64 (IntKind.wrap IntKind.i64 (now + IntKind.wrap IntKind.i64 (Int.tmod (List.getD bs (Int.toNat (↑i : Int)) (0 : Int)) (32 : Int)))) :: (SV.int IntKind.i64 (↑came : Int) :: (SV.int IntKind.i64 (-1 : Int) :: (SV.int IntKind.i64 (IntKind.wrap IntKind.i64 ((↑i : Int) + (1 : Int))) :: (SV.vec 3 ao (List.length ds) cap :: (SV.raw (u 13) :: (SV.int IntKind.i64 (↑due : Int) :: (SV.int IntKind.i64 (↑k : Int) :: (rawR u 16 (SV.int IntKind.i64 (↑i : Int) :: (SV.int IntKind.i64 (IntKind.wrap IntKind.i64 ((↑i : Int) + (1 : Int))) :: (rawR u 51 (SV.int IntKind.i64 (↑k : Int) :: (SV.vec 0 ao0 (List.length xs) cap0 :: (SV.int IntKind.i64 (↑(List.length xs) : Int) :: (SV.bool false :: (rawR u 87 (SV.int IntKind.i64 (↑came : Int) :: (SV.int IntKind.i64 (↑due : Int) :: ((SV.bool ((↑came : Int) != (↑due : Int))) :: (SV.bool false :: (SV.vec 3 ao (List.length ds) cap :: (SV.int IntKind.i64 (↑(List.length ds) : Int) :: (SV.bool (decide ((↑(List.length ds) : Int) > (0 : Int))) :: (SV.bool true :: (SV.ptr 2 b 0 :: (SV.int IntKind.i64 (soonT s.4) :: (SV.int IntKind.i64 now :: (SV.bool (decide (soonT s.4 ≤ now)) :: (SV.bool (decide (soonT s.4 ≤ now)) :: (SV.bool false :: (SV.int IntKind.i64 (↑i : Int) :: (SV.vec 1 ao1 (List.length bs) cap1 :: (SV.int IntKind.i64 (↑(List.length bs) : Int) :: (SV.bool true :: (SV.int IntKind.i64 now :: (SV.vec 1 ao1 (List.length bs) cap1 :: (SV.int IntKind.i64 (↑i : Int) :: (SV.eptr 1 (Addr.blkD ao1) (Addr.offD ao1) 1 (Int.toNat (↑i : Int)) 0 :: (SV.int IntKind.u8 (List.getD bs (Int.toNat (↑i : Int)) (0 : Int)) :: (SV.int IntKind.u8 (Int.tmod (List.getD bs (Int.toNat (↑i : Int)) (0 : Int)) (32 : Int)) :: (SV.int IntKind.i64 (IntKind.wrap IntKind.i64 (Int.tmod (List.getD bs (Int.toNat (↑i : Int)) (0 : Int)) (32 : Int))) :: (SV.int IntKind.i64 (IntKind.wrap IntKind.i64 (now + IntKind.wrap IntKind.i64 (Int.tmod (List.getD bs (Int.toNat (↑i : Int)) (0 : Int)) (32 : Int)))) :: [])))))))))))))))))))))))))) 11))))) 32))) 33)))))))))))))))))
               [Ent.mk (Loc.sl ao0 cap0) (SObj.roL 1 encU8L xs (0 : Int)), Ent.mk (Loc.sl ao1 cap1) (SObj.roL 1 encU8L bs (0 : Int)), pkA b loE s,
                Ent.mk (Loc.sl ao cap) (SObj.vecL (72 : TypeId) 3 encDU ds (DU.mk ByteArray.empty ByteArray.empty (0 : Int)))])
         | false =>
          K (Frm.loop J0 :: Frm.blk 2 :: frm [] (bodyOf Try.f4) [1, 1, 1, 1, 1, 1, 1, 1, 1, 1] [])
           (Sy.mk (SV.vec 0 ao0 (List.length xs) cap0 :: (SV.vec 1 ao1 (List.length bs) cap1 :: (SV.raw (u 2) :: (SV.raw (u 3) :: (SV.bool false :: (SV.ptr 2 b 0 :: (SV.raw (u 6) :: (SV.raw (u 7) :: (SV.int IntKind.i64 now :: (SV.int IntKind.i64 (↑came : Int) :: (SV.int IntKind.i64 (-1 : Int) :: (SV.int IntKind.i64 (IntKind.wrap IntKind.i64 ((↑i : Int) + (1 : Int))) :: (SV.vec 3 ao (List.length ds) cap :: (SV.raw (u 13) :: (SV.int IntKind.i64 (↑due : Int) :: (SV.int IntKind.i64 (↑k : Int) :: (rawR u 16 (SV.int IntKind.i64 (↑i : Int) :: (SV.int IntKind.i64 (IntKind.wrap IntKind.i64 ((↑i : Int) + (1 : Int))) :: (rawR u 51 (SV.int IntKind.i64 (↑k : Int) :: (SV.vec 0 ao0 (List.length xs) cap0 :: (SV.int IntKind.i64 (↑(List.length xs) : Int) :: (SV.bool false :: (rawR u 87 (SV.int IntKind.i64 (↑came : Int) :: (SV.int IntKind.i64 (↑due : Int) :: ((SV.bool ((↑came : Int) != (↑due : Int))) :: (SV.bool false :: (SV.vec 3 ao (List.length ds) cap :: (SV.int IntKind.i64 (↑(List.length ds) : Int) :: (SV.bool (decide ((↑(List.length ds) : Int) > (0 : Int))) :: (SV.bool true :: (SV.ptr 2 b 0 :: (SV.int IntKind.i64 (soonT s.4) :: (SV.int IntKind.i64 now :: (SV.bool (decide (soonT s.4 ≤ now)) :: (SV.bool (decide (soonT s.4 ≤ now)) :: (SV.bool false :: (SV.int IntKind.i64 (↑i : Int) :: (SV.vec 1 ao1 (List.length bs) cap1 :: (SV.int IntKind.i64 (↑(List.length bs) : Int) :: (SV.bool false :: (rawR u 116 [] 8))))))))))))))))))) 11))))) 32))) 33)))))))))))))))))
            [Ent.mk (Loc.sl ao0 cap0) (SObj.roL 1 encU8L xs (0 : Int)), Ent.mk (Loc.sl ao1 cap1) (SObj.roL 1 encU8L bs (0 : Int)), pkA b loE s,
             Ent.mk (Loc.sl ao cap) (SObj.vecL (72 : TypeId) 3 encDU ds (DU.mk ByteArray.empty ByteArray.empty (0 : Int)))])
  | false =>
   match decide ((↑i : Int) < (↑(List.length bs) : Int)) with
   | true =>
    (ao1 = ao1 ∧ cap1 = cap1 ∧ List.length bs = List.length bs ∧ (0 : Int) ≤ (↑i : Int) ∧ (↑i : Int) < (↑(List.length bs) : Int)) ∧
     (Addr.blkD ao1 = Addr.blkD ao1 ∧ Addr.offD ao1 = Addr.offD ao1 ∧ 1 = 1 ∧ Int.toNat (↑i : Int) < List.length bs) ∧
      (32 : Int) ≠ (0 : Int) ∧
       K (Frm.loop J0 :: Frm.blk 2 :: frm [] (bodyOf Try.f4) [1, 1, 1, 1, 1, 1, 1, 1, 1, 1] [])
        (Sy.mk (SV.vec 0 ao0 (List.length xs) cap0 :: (SV.vec 1 ao1 (List.length bs) cap1 :: (SV.raw (u 2) :: (SV.raw (u 3) :: (SV.bool false :: (SV.ptr 2 b 0 :: (SV.raw (u 6) :: (SV.raw (u 7) :: (SV.int IntKind.i64 (IntKind.wrap IntKind.i64 (now + IntKind.wrap IntKind.i64 (Int.tmod (List.getD bs (Int.toNat (↑i : Int)) (0 : Int)) (32 : Int)))) :: (SV.int IntKind.i64 (↑came : Int) :: (SV.int IntKind.i64 (-1 : Int) :: (SV.int IntKind.i64 (IntKind.wrap IntKind.i64 ((↑i : Int) + (1 : Int))) :: (SV.vec 3 ao (List.length ds) cap :: (SV.raw (u 13) :: (SV.int IntKind.i64 (↑due : Int) :: (SV.int IntKind.i64 (↑k : Int) :: (rawR u 16 (SV.int IntKind.i64 (↑i : Int) :: (SV.int IntKind.i64 (IntKind.wrap IntKind.i64 ((↑i : Int) + (1 : Int))) :: (rawR u 51 (SV.int IntKind.i64 (↑k : Int) :: (SV.vec 0 ao0 (List.length xs) cap0 :: (SV.int IntKind.i64 (↑(List.length xs) : Int) :: (SV.bool false :: (rawR u 87 (SV.int IntKind.i64 (↑came : Int) :: (SV.int IntKind.i64 (↑due : Int) :: ((SV.bool ((↑came : Int) != (↑due : Int))) :: (SV.bool false :: (SV.vec 3 ao (List.length ds) cap :: (SV.int IntKind.i64 (↑(List.length ds) : Int) :: (SV.bool (decide ((↑(List.length ds) : Int) > (0 : Int))) :: (SV.bool false :: (rawE (SV.bool false :: (SV.bool false :: (SV.int IntKind.i64 (↑i : Int) :: (SV.vec 1 ao1 (List.length bs) cap1 :: (SV.int IntKind.i64 (↑(List.length bs) : Int) :: (SV.bool true :: (SV.int IntKind.i64 now :: (SV.vec 1 ao1 (List.length bs) cap1 :: (SV.int IntKind.i64 (↑i : Int) :: (SV.eptr 1 (Addr.blkD ao1) (Addr.offD ao1) 1 (Int.toNat (↑i : Int)) 0 :: (SV.int IntKind.u8 (List.getD bs (Int.toNat (↑i : Int)) (0 : Int)) :: (SV.int IntKind.u8 (Int.tmod (List.getD bs (Int.toNat (↑i : Int)) (0 : Int)) (32 : Int)) :: (SV.int IntKind.i64 (IntKind.wrap IntKind.i64 (Int.tmod (List.getD bs (Int.toNat (↑i : Int)) (0 : Int)) (32 : Int))) :: (SV.int IntKind.i64 (IntKind.wrap IntKind.i64 (now + IntKind.wrap IntKind.i64 (Int.tmod (List.getD bs (Int.toNat (↑i : Int)) (0 : Int)) (32 : Int)))) :: [])))))))))))))) 4))))))))) 11))))) 32))) 33)))))))))))))))))
         [Ent.mk (Loc.sl ao0 cap0) (SObj.roL 1 encU8L xs (0 : Int)), Ent.mk (Loc.sl ao1 cap1) (SObj.roL 1 encU8L bs (0 : Int)), pkA b loE s,
          Ent.mk (Loc.sl ao cap) (SObj.vecL (72 : TypeId) 3 encDU ds (DU.mk ByteArray.empty ByteArray.empty (0 : Int)))])
   | false =>
    K (Frm.loop J0 :: Frm.blk 2 :: frm [] (bodyOf Try.f4) [1, 1, 1, 1, 1, 1, 1, 1, 1, 1] [])
     (Sy.mk (SV.vec 0 ao0 (List.length xs) cap0 :: (SV.vec 1 ao1 (List.length bs) cap1 :: (SV.raw (u 2) :: (SV.raw (u 3) :: (SV.bool false :: (SV.ptr 2 b 0 :: (SV.raw (u 6) :: (SV.raw (u 7) :: (SV.int IntKind.i64 now :: (SV.int IntKind.i64 (↑came : Int) :: (SV.int IntKind.i64 (-1 : Int) :: (SV.int IntKind.i64 (IntKind.wrap IntKind.i64 ((↑i : Int) + (1 : Int))) :: (SV.vec 3 ao (List.length ds) cap :: (SV.raw (u 13) :: (SV.int IntKind.i64 (↑due : Int) :: (SV.int IntKind.i64 (↑k : Int) :: (rawR u 16 (SV.int IntKind.i64 (↑i : Int) :: (SV.int IntKind.i64 (IntKind.wrap IntKind.i64 ((↑i : Int) + (1 : Int))) :: (rawR u 51 (SV.int IntKind.i64 (↑k : Int) :: (SV.vec 0 ao0 (List.length xs) cap0 :: (SV.int IntKind.i64 (↑(List.length xs) : Int) :: (SV.bool false :: (rawR u 87 (SV.int IntKind.i64 (↑came : Int) :: (SV.int IntKind.i64 (↑due : Int) :: ((SV.bool ((↑came : Int) != (↑due : Int))) :: (SV.bool false :: (SV.vec 3 ao (List.length ds) cap :: (SV.int IntKind.i64 (↑(List.length ds) : Int) :: (SV.bool (decide ((↑(List.length ds) : Int) > (0 : Int))) :: (SV.bool false :: (rawE (SV.bool false :: (SV.bool false :: (SV.int IntKind.i64 (↑i : Int) :: (SV.vec 1 ao1 (List.length bs) cap1 :: (SV.int IntKind.i64 (↑(List.length bs) : Int) :: (SV.bool false :: (rawR u 116 [] 8))))))) 4))))))))) 11))))) 32))) 33)))))))))))))))))
      [Ent.mk (Loc.sl ao0 cap0) (SObj.roL 1 encU8L xs (0 : Int)), Ent.mk (Loc.sl ao1 cap1) (SObj.roL 1 encU8L bs (0 : Int)), pkA b loE s,
       Ent.mk (Loc.sl ao cap) (SObj.vecL (72 : TypeId) 3 encDU ds (DU.mk ByteArray.empty ByteArray.empty (0 : Int)))])) := by kernel_rfl
end Go.Proofs.Ytkcmgcoppecfpaa

/- LoopOnce. -/
namespace Go.Proofs.Ytkcmgcoppecfpaa
open Go Go.RowKit

theorem getD_ltL {α : Type} (xs : List α) (d : α) (i : Nat) (h : i < xs.length) : xs.getD i d = xs[i] := by simp [List.getD, h]
section
variable {W : World} {F : List Ch} {ao0 ao1 : Option Addr} {cap0 cap1 : Nat} {xs bs : List Int} {b qb bm : Nat} {i : Nat} {now p last : Int} {ao : Option Addr} {cap : Nat}
theorem l1_due (hxl : xs.length ≤ 50) (hx : ∀ z ∈ xs, 0 ≤ z ∧ z ≤ 255) (hbl : bs.length ≤ 60) (hb : ∀ z ∈ bs, 0 ≤ z ∧ z ≤ 255) (hi : i ≤ bs.length) (hp : p ≤ now) (h0 : 0 ≤ now) (hn : now ≤ 31 * (i : Int))
    (st : Sy) (hlen : lenN st.tmps = 124) (hlive : liveOk st.tmps ((fun k : Nat => [(0, .vec 0 ao0 xs.length cap0), (1, .vec 1 ao1 bs.length cap1), (4, .bool false), (5, .ptr 2 b 0), (8, .int .i64 now), (9, .int .i64 ((((tsO xs xs.length).filter fun e => decide (e.2 ≤ now)).length) : Int)), (10, .int .i64 (last)), (11, .int .i64 (i : Int)), (12, .vec 3 ao (duesTo (lateT (tsO xs xs.length) p) now).length cap), (14, .int .i64 (((((xs.take k).filter fun x => decide (x ≤ now)).length : Nat)) : Int)), (15, .int .i64 (k : Int))]) 0)) (hheap : ∀ w, Rep W F st.heap w → Rep W F [⟨.sl ao0 cap0, .roL 1 encU8L xs 0⟩, ⟨.sl ao1 cap1, .roL 1 encU8L bs 0⟩, pkA b loE ⟨⟨[], 0⟩, qb, bm, (lateT (tsO xs xs.length) now)⟩, ⟨.sl ao cap, .vecL 72 3 encDU (duesTo (lateT (tsO xs xs.length) p) now) DU.zero⟩] w) :
    G Try.prog (endQ Try.prog Try.f4 W F fun _ r => r = .bool true) W F (frm [(Back W F 124 (fun s : Nat × Int × Int => [(0, .vec 0 ao0 xs.length cap0), (1, .vec 1 ao1 bs.length cap1), (4, .bool false), (5, .ptr 2 b 0), (8, .int .i64 s.2.2), (9, .int .i64 ((((tsO xs xs.length).filter fun e => decide (e.2 ≤ s.2.1)).length) : Int)), (10, .int .i64 (-1)), (11, .int .i64 (s.1 : Int))]) (fun s : Nat × Int × Int => [⟨.sl ao0 cap0, .roL 1 encU8L xs 0⟩, ⟨.sl ao1 cap1, .roL 1 encU8L bs 0⟩, pkA b loE ⟨⟨[], 0⟩, qb, bm, lateT (tsO xs xs.length) s.2.1⟩]) (fun s : Nat × Int × Int => s.1 ≤ bs.length + 1 ∧ s.2.1 ≤ s.2.2 ∧ 0 ≤ s.2.2 ∧ s.2.2 ≤ 31 * (s.1 : Int)) (fun s : Nat × Int × Int => bs.length + 1 - s.1) (bs.length + 1 - i))] (bodyOf Try.f4) [1, 1, 1, 1, 1, 1, 1, 1, 1, 0, 1, 0, 0, 1, 0, 0, 1, 1, 1, 0, 1, 0] []) st := by
  have hlok : loOk ⟨⟨[], 0⟩, qb, bm, (lateT (tsO xs xs.length) now)⟩ := ⟨⟨Nat.zero_le _, Nat.zero_le _⟩, keysOk_sub (tsO_keys xs (by omega)) List.filter_sublist, Nat.le_trans (List.length_filter_le _ _) (by simp [tsO]; omega), fun e he => tsO_kd xs _ e (List.mem_filter.1 he).1⟩
  refine G_loopAt (ι := Nat) [(Back W F 124 (fun s : Nat × Int × Int => [(0, .vec 0 ao0 xs.length cap0), (1, .vec 1 ao1 bs.length cap1), (4, .bool false), (5, .ptr 2 b 0), (8, .int .i64 s.2.2), (9, .int .i64 ((((tsO xs xs.length).filter fun e => decide (e.2 ≤ s.2.1)).length) : Int)), (10, .int .i64 (-1)), (11, .int .i64 (s.1 : Int))]) (fun s : Nat × Int × Int => [⟨.sl ao0 cap0, .roL 1 encU8L xs 0⟩, ⟨.sl ao1 cap1, .roL 1 encU8L bs 0⟩, pkA b loE ⟨⟨[], 0⟩, qb, bm, lateT (tsO xs xs.length) s.2.1⟩]) (fun s : Nat × Int × Int => s.1 ≤ bs.length + 1 ∧ s.2.1 ≤ s.2.2 ∧ 0 ≤ s.2.2 ∧ s.2.2 ≤ 31 * (s.1 : Int)) (fun s : Nat × Int × Int => bs.length + 1 - s.1) (bs.length + 1 - i))] (bodyOf Try.f4) [1, 1, 1, 1, 1, 1, 1, 1, 1, 0, 1, 0, 0, 1, 0, 0, 1, 1, 1, 0, 1, 0] 124 (fun k : Nat => [(0, .vec 0 ao0 xs.length cap0), (1, .vec 1 ao1 bs.length cap1), (4, .bool false), (5, .ptr 2 b 0), (8, .int .i64 now), (9, .int .i64 ((((tsO xs xs.length).filter fun e => decide (e.2 ≤ now)).length) : Int)), (10, .int .i64 (last)), (11, .int .i64 (i : Int)), (12, .vec 3 ao (duesTo (lateT (tsO xs xs.length) p) now).length cap), (14, .int .i64 (((((xs.take k).filter fun x => decide (x ≤ now)).length : Nat)) : Int)), (15, .int .i64 (k : Int))]) (fun _ : Nat => [⟨.sl ao0 cap0, .roL 1 encU8L xs 0⟩, ⟨.sl ao1 cap1, .roL 1 encU8L bs 0⟩, pkA b loE ⟨⟨[], 0⟩, qb, bm, (lateT (tsO xs xs.length) now)⟩, ⟨.sl ao cap, .vecL 72 3 encDU (duesTo (lateT (tsO xs xs.length) p) now) DU.zero⟩]) (fun k : Nat => k ≤ xs.length) (fun k : Nat => xs.length - k) 0 (by kernel_rfl) (fun J => by kernel_rfl) (Nat.zero_le _) hlen hlive hheap ?_
  intro k hk u
  simp only [List.nil_append, List.cons_append]
  refine G_run (kc := true) (ss := []) loT_ok hmLo 900 ?_
  rw [l1_27 (due := ((xs.take k).filter fun x => decide (x ≤ now)).length) (s := ⟨⟨[], 0⟩, qb, bm, (lateT (tsO xs xs.length) now)⟩)]
  have wk : k < xs.length → IntKind.wrap .i64 ((k : Int) + 1) = ((k + 1 : Nat) : Int) := fun h => IntWalk.i64_in _ (by omega)
  have wi : IntKind.wrap .i64 ((i : Int) + 1) = ((i + 1 : Nat) : Int) := IntWalk.i64_in _ (by omega)
  have hdk : ((xs.take k).filter fun x => decide (x ≤ now)).length ≤ k := Nat.le_trans (List.length_filter_le _ _) (by simp; omega)
  have wd : IntKind.wrap .i64 (((((xs.take k).filter fun x => decide (x ≤ now)).length : Nat) : Int) + 1) = ((((xs.take k).filter fun x => decide (x ≤ now)).length + 1 : Nat) : Int) := IntWalk.i64_in _ (by omega)
  cases hlt : decide ((k : Int) < (xs.length : Int)) with
  | true =>
    simp only [decide_eq_true_eq] at hlt
    have hk' : k < xs.length := by omega
    rw [wk hk', wd, Int.toNat_natCast, getD_ltL xs 0 k hk']
    have hz := hx _ (List.getElem_mem hk')
    rw [IntWalk.i64_in (xs[k]) (by omega)]
    have hst := due_step xs now hk'
    refine ⟨⟨rfl, rfl, rfl, by omega, by omega⟩, ⟨rfl, rfl, rfl, hk'⟩, ?_⟩
    cases hc : decide (xs[k] ≤ now) with
    | true =>
      rw [hc] at hst
      exact G_back (k + 1) (by show k + 1 ≤ _; omega) (by show xs.length - (k + 1) < xs.length - k; omega) rfl ⟨rfl, rfl, rfl, rfl, rfl, rfl, rfl, rfl, rfl, by rw [hst]; rfl, rfl, trivial⟩ (fun w hr => hr)
    | false =>
      rw [hc] at hst
      exact G_back (k + 1) (by show k + 1 ≤ _; omega) (by show xs.length - (k + 1) < xs.length - k; omega) rfl ⟨rfl, rfl, rfl, rfl, rfl, rfl, rfl, rfl, rfl, by rw [hst]; rfl, rfl, trivial⟩ (fun w hr => hr)
  | false =>
    simp only [decide_eq_false_iff_not] at hlt
    have hk' : k = xs.length := by omega
    subst hk'
    have e1 : (((((tsO xs xs.length).filter fun e => decide (e.2 ≤ now)).length : Nat) : Int) != (((((xs.take xs.length).filter fun x => decide (x ≤ now)).length : Nat)) : Int)) = false := by
      rw [due_eq, List.take_length]; simp
    rw [e1]
    have e2 : decide (soonT (lateT (tsO xs xs.length) now) ≤ now) = false := by
      have := soon_late (tsO xs xs.length) (now := now) (by omega)
      exact decide_eq_false (by omega)
    have fin : ∀ (tm : List SV) (now' : Int), now ≤ now' → now' ≤ 31 * ((i + 1 : Nat) : Int) → lenN tm = 124 → liveOk tm [(0, .vec 0 ao0 xs.length cap0), (1, .vec 1 ao1 bs.length cap1), (4, .bool false), (5, .ptr 2 b 0), (8, .int .i64 now'), (9, .int .i64 ((((tsO xs xs.length).filter fun e => decide (e.2 ≤ now)).length) : Int)), (10, .int .i64 (-1)), (11, .int .i64 ((i + 1 : Nat) : Int))] → G Try.prog (endQ Try.prog Try.f4 W F fun _ r => r = .bool true) W F (.loop (Back W F 124 (fun s : Nat × Int × Int => [(0, .vec 0 ao0 xs.length cap0), (1, .vec 1 ao1 bs.length cap1), (4, .bool false), (5, .ptr 2 b 0), (8, .int .i64 s.2.2), (9, .int .i64 ((((tsO xs xs.length).filter fun e => decide (e.2 ≤ s.2.1)).length) : Int)), (10, .int .i64 (-1)), (11, .int .i64 (s.1 : Int))]) (fun s : Nat × Int × Int => [⟨.sl ao0 cap0, .roL 1 encU8L xs 0⟩, ⟨.sl ao1 cap1, .roL 1 encU8L bs 0⟩, pkA b loE ⟨⟨[], 0⟩, qb, bm, lateT (tsO xs xs.length) s.2.1⟩]) (fun s : Nat × Int × Int => s.1 ≤ bs.length + 1 ∧ s.2.1 ≤ s.2.2 ∧ 0 ≤ s.2.2 ∧ s.2.2 ≤ 31 * (s.1 : Int)) (fun s : Nat × Int × Int => bs.length + 1 - s.1) (bs.length + 1 - i)) :: .blk 2 :: frm [] (bodyOf Try.f4) [1, 1, 1, 1, 1, 1, 1, 1, 1, 1] []) ⟨tm, [⟨.sl ao0 cap0, .roL 1 encU8L xs 0⟩, ⟨.sl ao1 cap1, .roL 1 encU8L bs 0⟩, pkA b loE ⟨⟨[], 0⟩, qb, bm, (lateT (tsO xs xs.length) now)⟩, ⟨.sl ao cap, .vecL 72 3 encDU (duesTo (lateT (tsO xs xs.length) p) now) DU.zero⟩]⟩ := fun tm now' g1 g2 g3 g4 =>
      G_back (i + 1, now, now') ⟨by show i + 1 ≤ _; omega, g1, by show 0 ≤ now'; omega, g2⟩ (by show bs.length + 1 - (i + 1) < bs.length + 1 - i; omega) g3 g4 (fun w hr => Rep.dropR (h := [_, _, _]) (t := [_]) hr)
    have step : ∀ (Φ : Prop), (decide ((i : Int) < (bs.length : Int)) = true → (∀ z : Int, 0 ≤ z → z ≤ 31 → bs.getD (Int.toNat (i : Int)) 0 = bs.getD i 0 → IntKind.wrap .i64 (now + IntKind.wrap .i64 (Int.tmod (bs.getD (Int.toNat (i : Int)) 0) 32)) = now + z → Φ)) → decide ((i : Int) < (bs.length : Int)) = true → Φ := by
      intro Φ h hd
      simp only [decide_eq_true_eq] at hd
      have hi' : i < bs.length := by omega
      have hz := hb _ (List.getElem_mem hi')
      have hm := Int.tmod_eq_emod_of_nonneg (b := 32) hz.1
      have hg : bs.getD (Int.toNat (i : Int)) 0 = bs[i] := by rw [Int.toNat_natCast, getD_ltL bs 0 i hi']
      refine h (by simpa using hd) ((bs[i]).tmod 32) (by omega) (by omega) (by rw [Int.toNat_natCast]) ?_
      rw [hg, IntWalk.i64_in ((bs[i]).tmod 32) (by omega), IntWalk.i64_in _ (by omega)]
    rw [wi]
    cases hd : decide ((((duesTo (lateT (tsO xs xs.length) p) now).length : Nat) : Int) > 0) with
    | true =>
      refine ⟨rfl, rfl, rfl, HEq.rfl, hlok, ?_⟩
      dsimp only
      rw [e2]
      cases hd2 : decide ((i : Int) < (bs.length : Int)) with
      | true =>
        refine step _ (fun hd3 z z0 z1 _ hz => ?_) hd2
        simp only [decide_eq_true_eq] at hd3
        refine ⟨⟨rfl, rfl, rfl, by omega, by omega⟩, ⟨rfl, rfl, rfl, by omega⟩, by decide, ?_⟩
        refine fin _ (now + z) (by omega) (by omega) rfl ⟨rfl, rfl, rfl, rfl, congrArg (Value.int .i64) hz, rfl, rfl, rfl, trivial⟩
      | false => exact fin _ now (Int.le_refl _) (by omega) rfl ⟨rfl, rfl, rfl, rfl, rfl, rfl, rfl, rfl, trivial⟩
    | false =>
      cases hd2 : decide ((i : Int) < (bs.length : Int)) with
      | true =>
        refine step _ (fun hd3 z z0 z1 _ hz => ?_) hd2
        simp only [decide_eq_true_eq] at hd3
        refine ⟨⟨rfl, rfl, rfl, by omega, by omega⟩, ⟨rfl, rfl, rfl, by omega⟩, by decide, ?_⟩
        refine fin _ (now + z) (by omega) (by omega) rfl ⟨rfl, rfl, rfl, rfl, congrArg (Value.int .i64) hz, rfl, rfl, rfl, trivial⟩
      | false => exact fin _ now (Int.le_refl _) (by omega) rfl ⟨rfl, rfl, rfl, rfl, rfl, rfl, rfl, rfl, trivial⟩
theorem l1_in (hxl : xs.length ≤ 50) (hx : ∀ z ∈ xs, 0 ≤ z ∧ z ≤ 255) (hbl : bs.length ≤ 60) (hb : ∀ z ∈ bs, 0 ≤ z ∧ z ≤ 255) (hi : i ≤ bs.length) (hp : p ≤ now) (h0 : 0 ≤ now) (hn : now ≤ 31 * (i : Int))
    (st : Sy) (hlen : lenN st.tmps = 124) (hlive : liveOk st.tmps ((fun s : Nat × Int => [(0, .vec 0 ao0 xs.length cap0), (1, .vec 1 ao1 bs.length cap1), (4, .bool false), (5, .ptr 2 b 0), (8, .int .i64 now), (9, .int .i64 ((((((tsO xs xs.length).filter fun e => decide (e.2 ≤ p)).length) + s.1 : Nat)) : Int)), (10, .int .i64 (s.2)), (11, .int .i64 (i : Int)), (12, .vec 3 ao (duesTo (lateT (tsO xs xs.length) p) now).length cap), (13, .int .i64 (s.1 : Int))]) (0, -1))) (hheap : ∀ w, Rep W F st.heap w → Rep W F [⟨.sl ao0 cap0, .roL 1 encU8L xs 0⟩, ⟨.sl ao1 cap1, .roL 1 encU8L bs 0⟩, pkA b loE ⟨⟨[], 0⟩, qb, bm, (lateT (tsO xs xs.length) now)⟩, ⟨.sl ao cap, .vecL 72 3 encDU (duesTo (lateT (tsO xs xs.length) p) now) DU.zero⟩] w) :
    G Try.prog (endQ Try.prog Try.f4 W F fun _ r => r = .bool true) W F (frm [(Back W F 124 (fun s : Nat × Int × Int => [(0, .vec 0 ao0 xs.length cap0), (1, .vec 1 ao1 bs.length cap1), (4, .bool false), (5, .ptr 2 b 0), (8, .int .i64 s.2.2), (9, .int .i64 ((((tsO xs xs.length).filter fun e => decide (e.2 ≤ s.2.1)).length) : Int)), (10, .int .i64 (-1)), (11, .int .i64 (s.1 : Int))]) (fun s : Nat × Int × Int => [⟨.sl ao0 cap0, .roL 1 encU8L xs 0⟩, ⟨.sl ao1 cap1, .roL 1 encU8L bs 0⟩, pkA b loE ⟨⟨[], 0⟩, qb, bm, lateT (tsO xs xs.length) s.2.1⟩]) (fun s : Nat × Int × Int => s.1 ≤ bs.length + 1 ∧ s.2.1 ≤ s.2.2 ∧ 0 ≤ s.2.2 ∧ s.2.2 ≤ 31 * (s.1 : Int)) (fun s : Nat × Int × Int => bs.length + 1 - s.1) (bs.length + 1 - i))] (bodyOf Try.f4) [1, 1, 1, 1, 1, 1, 1, 1, 1, 0, 1, 0, 0, 1, 0, 0, 1, 0, 1, 0] []) st := by
  have hsub : ∀ d ∈ duesTo (lateT (tsO xs xs.length) p) now, d.tm ≤ now ∧ 0 ≤ d.tm := by
    intro d hd
    obtain ⟨⟨e, he, rfl⟩, h2⟩ := (mem_duesTo d).1 hd
    have h3 := (List.mem_filter.1 he).1
    obtain ⟨j, hj, rfl⟩ := List.mem_map.1 h3
    have hj' := List.mem_range.1 hj
    have := hx _ (List.getElem_mem hj')
    exact ⟨h2, by show 0 ≤ xs.getD j 0; rw [getD_ltL xs 0 j hj']; omega⟩
  have hsorted := duesTo_sorted (lateT (tsO xs xs.length) p) now
  have hmore := came_more (tsO xs xs.length) hp
  have hcl : ((tsO xs xs.length).filter fun e => decide (e.2 ≤ now)).length ≤ 50 := Nat.le_trans (List.length_filter_le _ _) (by simp [tsO]; omega)
  refine G_loopAt (ι := Nat × Int) [(Back W F 124 (fun s : Nat × Int × Int => [(0, .vec 0 ao0 xs.length cap0), (1, .vec 1 ao1 bs.length cap1), (4, .bool false), (5, .ptr 2 b 0), (8, .int .i64 s.2.2), (9, .int .i64 ((((tsO xs xs.length).filter fun e => decide (e.2 ≤ s.2.1)).length) : Int)), (10, .int .i64 (-1)), (11, .int .i64 (s.1 : Int))]) (fun s : Nat × Int × Int => [⟨.sl ao0 cap0, .roL 1 encU8L xs 0⟩, ⟨.sl ao1 cap1, .roL 1 encU8L bs 0⟩, pkA b loE ⟨⟨[], 0⟩, qb, bm, lateT (tsO xs xs.length) s.2.1⟩]) (fun s : Nat × Int × Int => s.1 ≤ bs.length + 1 ∧ s.2.1 ≤ s.2.2 ∧ 0 ≤ s.2.2 ∧ s.2.2 ≤ 31 * (s.1 : Int)) (fun s : Nat × Int × Int => bs.length + 1 - s.1) (bs.length + 1 - i))] (bodyOf Try.f4) [1, 1, 1, 1, 1, 1, 1, 1, 1, 0, 1, 0, 0, 1, 0, 0, 1, 0, 1, 0] 124 (fun s : Nat × Int => [(0, .vec 0 ao0 xs.length cap0), (1, .vec 1 ao1 bs.length cap1), (4, .bool false), (5, .ptr 2 b 0), (8, .int .i64 now), (9, .int .i64 ((((((tsO xs xs.length).filter fun e => decide (e.2 ≤ p)).length) + s.1 : Nat)) : Int)), (10, .int .i64 (s.2)), (11, .int .i64 (i : Int)), (12, .vec 3 ao (duesTo (lateT (tsO xs xs.length) p) now).length cap), (13, .int .i64 (s.1 : Int))]) (fun s : Nat × Int => [⟨.sl ao0 cap0, .roL 1 encU8L xs 0⟩, ⟨.sl ao1 cap1, .roL 1 encU8L bs 0⟩, pkA b loE ⟨⟨[], 0⟩, qb, bm, (lateT (tsO xs xs.length) now)⟩, ⟨.sl ao cap, .vecL 72 3 encDU (duesTo (lateT (tsO xs xs.length) p) now) DU.zero⟩]) (fun s : Nat × Int => s.1 ≤ (duesTo (lateT (tsO xs xs.length) p) now).length ∧ ∀ h : s.1 < (duesTo (lateT (tsO xs xs.length) p) now).length, s.2 ≤ ((duesTo (lateT (tsO xs xs.length) p) now)[s.1]).tm) (fun s : Nat × Int => (duesTo (lateT (tsO xs xs.length) p) now).length - s.1) (0, -1) (by kernel_rfl) (fun J => by kernel_rfl) ⟨Nat.zero_le _, fun h => by have := (hsub _ (List.getElem_mem h)).2; dsimp only at this ⊢; omega⟩ hlen hlive hheap ?_
  rintro ⟨k, last⟩ ⟨hk, hl⟩ u
  dsimp only at hk hl ⊢
  simp only [List.nil_append, List.cons_append]
  refine G_run (kc := true) (ss := []) loT_ok hmLo 900 ?_
  rw [l1_19 (s := ⟨⟨[], 0⟩, qb, bm, (lateT (tsO xs xs.length) now)⟩)]
  cases hlt : decide ((k : Int) < (((duesTo (lateT (tsO xs xs.length) p) now).length : Nat) : Int)) with
  | true =>
    simp only [decide_eq_true_eq] at hlt
    have hk' : k < (duesTo (lateT (tsO xs xs.length) p) now).length := by omega
    have wk : IntKind.wrap .i64 ((k : Int) + 1) = ((k + 1 : Nat) : Int) := IntWalk.i64_in _ (by omega)
    have wc : IntKind.wrap .i64 (((((((tsO xs xs.length).filter fun e => decide (e.2 ≤ p)).length) + k : Nat)) : Int) + 1) = (((((tsO xs xs.length).filter fun e => decide (e.2 ≤ p)).length) + (k + 1) : Nat) : Int) := by rw [IntWalk.i64_in _ (by omega)]; omega
    have hm := hsub _ (List.getElem_mem hk')
    have hll := hl hk'
    rw [wk, wc]
    have eg : (duesTo (lateT (tsO xs xs.length) p) now).getD (Int.toNat (k : Int)) (DU.mk ByteArray.empty ByteArray.empty 0) = (duesTo (lateT (tsO xs xs.length) p) now)[k] := by rw [Int.toNat_natCast, getD_ltL _ _ k hk']
    rw [eg, decide_eq_false (show ¬ ((duesTo (lateT (tsO xs xs.length) p) now)[k]).tm > now by omega), decide_eq_false (show ¬ ((duesTo (lateT (tsO xs xs.length) p) now)[k]).tm < last by omega)]
    refine ⟨⟨rfl, rfl, rfl, by omega, by omega⟩, ⟨rfl, rfl, rfl, by omega⟩, ⟨rfl, rfl, rfl, by omega, by omega⟩, ⟨rfl, rfl, rfl, by omega⟩, ⟨rfl, rfl, rfl, by omega, by omega⟩, ⟨rfl, rfl, rfl, by omega⟩, ?_⟩
    refine G_back (k + 1, ((duesTo (lateT (tsO xs xs.length) p) now)[k]).tm) ⟨by show k + 1 ≤ _; omega, fun h => ?_⟩ (by show (duesTo (lateT (tsO xs xs.length) p) now).length - (k + 1) < (duesTo (lateT (tsO xs xs.length) p) now).length - k; omega) rfl ⟨rfl, rfl, rfl, rfl, rfl, rfl, rfl, rfl, rfl, rfl, trivial⟩ (fun w hr => hr)
    exact tm_le_of (List.pairwise_iff_getElem.1 hsorted k (k + 1) hk' h (Nat.lt_succ_self k))
  | false =>
    simp only [decide_eq_false_iff_not] at hlt
    have hk' : k = (duesTo (lateT (tsO xs xs.length) p) now).length := by omega
    subst hk'
    refine l1_due (last := last) hxl hx hbl hb hi hp h0 hn _ rfl ⟨rfl, rfl, rfl, rfl, rfl, ?_, rfl, rfl, rfl, rfl, rfl, trivial⟩ (fun w hr => hr)
    show Value.int .i64 _ = Value.int .i64 _
    rw [hmore]
theorem l1_main_ok (hxl : xs.length ≤ 50) (hx : ∀ z ∈ xs, 0 ≤ z ∧ z ≤ 255) (hbl : bs.length ≤ 60) (hb : ∀ z ∈ bs, 0 ≤ z ∧ z ≤ 255)
    (st : Sy) (hlen : lenN st.tmps = 124) (hlive : liveOk st.tmps ((fun s : Nat × Int × Int => [(0, .vec 0 ao0 xs.length cap0), (1, .vec 1 ao1 bs.length cap1), (4, .bool false), (5, .ptr 2 b 0), (8, .int .i64 s.2.2), (9, .int .i64 ((((tsO xs xs.length).filter fun e => decide (e.2 ≤ s.2.1)).length) : Int)), (10, .int .i64 (-1)), (11, .int .i64 (s.1 : Int))]) (0, -1, 0))) (hheap : ∀ w, Rep W F st.heap w → Rep W F ((fun s : Nat × Int × Int => [⟨.sl ao0 cap0, .roL 1 encU8L xs 0⟩, ⟨.sl ao1 cap1, .roL 1 encU8L bs 0⟩, pkA b loE ⟨⟨[], 0⟩, qb, bm, lateT (tsO xs xs.length) s.2.1⟩]) (0, -1, 0)) w) :
    G Try.prog (endQ Try.prog Try.f4 W F fun _ r => r = .bool true) W F (frm [] (bodyOf Try.f4) [1, 1, 1, 1, 1, 1, 1, 1, 1, 0, 1, 0] []) st := by
  refine G_loopAt (ι := Nat × Int × Int) [] (bodyOf Try.f4) [1, 1, 1, 1, 1, 1, 1, 1, 1, 0, 1, 0] 124 (fun s : Nat × Int × Int => [(0, .vec 0 ao0 xs.length cap0), (1, .vec 1 ao1 bs.length cap1), (4, .bool false), (5, .ptr 2 b 0), (8, .int .i64 s.2.2), (9, .int .i64 ((((tsO xs xs.length).filter fun e => decide (e.2 ≤ s.2.1)).length) : Int)), (10, .int .i64 (-1)), (11, .int .i64 (s.1 : Int))]) (fun s : Nat × Int × Int => [⟨.sl ao0 cap0, .roL 1 encU8L xs 0⟩, ⟨.sl ao1 cap1, .roL 1 encU8L bs 0⟩, pkA b loE ⟨⟨[], 0⟩, qb, bm, lateT (tsO xs xs.length) s.2.1⟩]) (fun s : Nat × Int × Int => s.1 ≤ bs.length + 1 ∧ s.2.1 ≤ s.2.2 ∧ 0 ≤ s.2.2 ∧ s.2.2 ≤ 31 * (s.1 : Int)) (fun s : Nat × Int × Int => bs.length + 1 - s.1) (0, -1, 0) (by kernel_rfl) (fun J => by kernel_rfl) ⟨Nat.zero_le _, by decide, by decide, by decide⟩ hlen hlive hheap ?_
  rintro ⟨i, p, now⟩ ⟨hi, hp, h0, hn⟩ u
  dsimp only at hi hp h0 hn ⊢
  simp only [List.nil_append, List.cons_append]
  refine G_run (kc := true) (ss := []) loT_ok hmLo 900 ?_
  rw [l1_main (s := ⟨⟨[], 0⟩, qb, bm, lateT (tsO xs xs.length) p⟩)]
  cases hlt : decide ((i : Int) ≤ (bs.length : Int)) with
  | false => exact rfl
  | true =>
    simp only [decide_eq_true_eq] at hlt
    have hlok : loOk ⟨⟨[], 0⟩, qb, bm, lateT (tsO xs xs.length) p⟩ := ⟨⟨Nat.zero_le _, Nat.zero_le _⟩, keysOk_sub (tsO_keys xs (by omega)) List.filter_sublist, Nat.le_trans (List.length_filter_le _ _) (by simp [tsO]; omega), fun e he => tsO_kd xs _ e (List.mem_filter.1 he).1⟩
    refine ⟨rfl, rfl, rfl, HEq.rfl, hlok, fun ao cap => ?_⟩
    refine l1_in hxl hx hbl hb (by omega) hp h0 hn _ rfl ⟨rfl, rfl, rfl, rfl, rfl, rfl, rfl, rfl, rfl, rfl, trivial⟩ (fun w hr => ?_)
    dsimp only at hr
    rw [lateT_lateT _ hp] at hr
    exact hr
end
theorem lo_ok (ao0 : Option Addr) (cap0 : Nat) (xs : List Int) (ao1 : Option Addr) (cap1 : Nat) (bs : List Int) (hx : ∀ z ∈ xs, 0 ≤ z ∧ z ≤ 255) (hb : ∀ z ∈ bs, 0 ≤ z ∧ z ≤ 255) : Spec Try.prog 4 [⟨.sl ao0 cap0, .roL 1 encU8L xs 0⟩, ⟨.sl ao1 cap1, .roL 1 encU8L bs 0⟩] [.vec 0 ao0 xs.length cap0, .vec 1 ao1 bs.length cap1] fun _ r => r = .bool true := by
  refine Spec.of_G 124 Try.func4 (c := bodyOf Try.f4) (by kernel_rfl) (by kernel_rfl) (Nat.le_of_ble_eq_true rfl) fun W F => ?_
  refine G_run (kc := false) (ss := []) loT_ok hmLo 1500 ?_
  rw [l1_start]
  refine ⟨rfl, ?_⟩
  cases h1 : decide ((xs.length : Int) > 50) with
  | true => exact rfl
  | false =>
  cases h2 : decide ((bs.length : Int) > 60) with
  | true => exact rfl
  | false =>
  simp only [decide_eq_false_iff_not] at h1 h2
  refine ⟨rfl, fun b qb bm => ?_⟩
  refine G_loopAt (ι := Nat) [] (bodyOf Try.f4) [1, 1, 1, 1, 1, 0, 1, 0] 124 (fun i : Nat => [(0, .vec 0 ao0 xs.length cap0), (1, .vec 1 ao1 bs.length cap1), (4, .bool false), (5, .ptr 2 b 0), (6, .str nms52), (7, .int .i64 (i : Int))]) (fun i : Nat => [⟨.sl ao0 cap0, .roL 1 encU8L xs 0⟩, ⟨.sl ao1 cap1, .roL 1 encU8L bs 0⟩, pkA b loE ⟨⟨[], 0⟩, qb, bm, tsO xs i⟩]) (fun i : Nat => i ≤ xs.length) (fun i : Nat => xs.length - i) 0 (by kernel_rfl) (fun J => by kernel_rfl) (Nat.zero_le _) rfl ⟨rfl, rfl, rfl, rfl, rfl, rfl, trivial⟩ (fun w hr => hr) ?_
  intro i hi u
  simp only [List.nil_append, List.cons_append]
  refine G_run (kc := false) (ss := []) loT_ok hmLo 900 ?_
  rw [l1_set (s := ⟨⟨[], 0⟩, qb, bm, tsO xs i⟩)]
  cases hlt : decide ((i : Int) < (xs.length : Int)) with
  | false =>
    simp only [decide_eq_false_iff_not] at hlt
    have hi' : i = xs.length := by omega
    subst hi'
    have e0 : lateT (tsO xs xs.length) (-1) = (tsO xs xs.length) := List.filter_eq_self.2 fun e he => by
      obtain ⟨j, hj, rfl⟩ := List.mem_map.1 he
      have hj' := List.mem_range.1 hj
      have := hx _ (List.getElem_mem hj')
      have e := getD_ltL xs 0 j hj'
      exact decide_eq_true (by show -1 < xs.getD j 0; omega)
    have e1 : ((tsO xs xs.length).filter fun e => decide (e.2 ≤ -1)) = [] := List.filter_eq_nil_iff.2 fun e he => by
      obtain ⟨j, hj, rfl⟩ := List.mem_map.1 he
      have hj' := List.mem_range.1 hj
      have := hx _ (List.getElem_mem hj')
      have e := getD_ltL xs 0 j hj'
      simp only [decide_eq_true_eq]; show ¬ xs.getD j 0 ≤ -1; omega
    refine l1_main_ok (qb := qb) (bm := bm) (b := b) (by omega) hx (by omega) hb _ rfl ⟨rfl, rfl, rfl, rfl, rfl, ?_, rfl, rfl, trivial⟩ (fun w hr => ?_)
    · dsimp only
      rw [e1]; rfl
    · dsimp only
      rw [e0]; exact hr
  | true =>
    simp only [decide_eq_true_eq] at hlt
    have hi' : i < xs.length := by omega
    have w1 : IntKind.wrap .i64 ((i : Int) + 1) = ((i + 1 : Nat) : Int) := IntWalk.i64_in _ (by omega)
    have hz := hx _ (List.getElem_mem hi')
    have hlok : loOk ⟨⟨[], 0⟩, qb, bm, tsO xs i⟩ := ⟨⟨Nat.zero_le _, Nat.zero_le _⟩, tsO_keys xs (by omega), by simp [tsO]; omega, tsO_kd xs _⟩
    have hset : lSet ⟨⟨[], 0⟩, qb, bm, tsO xs i⟩ (ByteArray.extract nms52 i (i + 1)) ⟨#[116]⟩ (xs.getD i 0) = ⟨⟨[], 0⟩, qb, bm, tsO xs (i + 1)⟩ := by
      unfold lSet
      have e := getD_ltL xs 0 i hi'
      rw [show (xs.getD i 0 == 9223372036854775807) = false from by rw [beq_eq_false_iff_ne]; omega]
      dsimp only
      rw [show mset (tsO xs i) (tmKey (ByteArray.extract nms52 i (i + 1)) ⟨#[116]⟩) (xs.getD i 0) = tsO xs (i + 1) from tsO_succ xs (by omega)]
    rw [w1, Int.toNat_natCast, Int.toNat_natCast]
    refine ⟨⟨by omega, by omega, by show ((i + 1 : Nat) : Int) ≤ ((nms52.size : Nat) : Int); rw [show nms52.size = 52 from rfl]; omega⟩, ⟨rfl, rfl, rfl, by omega, by omega⟩, ⟨rfl, rfl, rfl, by omega⟩, rfl, rfl, rfl, HEq.rfl, hlok, ?_⟩
    rw [IntWalk.i64_in (xs.getD i 0) (by rw [getD_ltL xs 0 i hi']; omega), hset]
    exact G_back (i + 1) (by show i + 1 ≤ _; omega) (by show xs.length - (i + 1) < xs.length - i; omega) rfl ⟨rfl, rfl, rfl, rfl, rfl, rfl, trivial⟩ (fun w hr => hr)
end Go.Proofs.Ytkcmgcoppecfpaa

/- A law's call with a slice of numbers as1 its argument. -/
namespace Go.Proofs.Ytkcmgcoppecfpaa
open Go Go.RowKit Go.ChangeShapes

theorem ro_ints {W : World} {k : IntKind} {a : Addr} {len cap : Nat} {zs : List Int} {enc : Int → List SV} (henc : ∀ x, enc x = [.int k x]) (hl : len ≤ cap) (hz : zs.length = cap) (hcell : ∀ i, i < zs.length → W.cell? (a.add i) = some (.int k (zs.getD i 0))) :
    has W (.sl (some a) cap) (.roL 1 enc (zs.take len) 0) [] := by
  by_cases h0 : len = 0
  · subst h0
    exact ⟨rfl, (fun x => by rw [henc]; rfl), by simp, .inl (by simp)⟩
  · obtain ⟨b, off, rfl, hc⟩ := ints_at hcell (by omega)
    have hc0 := hc 0 (by omega)
    have hc1 : ∃ cur T fr, W.heap[b]? = some (.cells cur T fr) := by
      simp only [World.cell?] at hc0
      split at hc0
      · rename_i cur T fr hh; exact ⟨_, _, _, hh⟩
      · cases hc0
    obtain ⟨cur, T, fr, hb⟩ := hc1
    refine ⟨rfl, (fun x => by rw [henc]; rfl), by simp; omega, .inr ⟨b, off, cur, T, fr, rfl, hb, ?_⟩⟩
    · have hfl : ∀ l : List Int, flatV enc l = l.map fun x => Value.int k x := by
        intro l
        induction l with
        | nil => rfl
        | cons x l ih =>
          have : flatV enc (x :: l) = denL (enc x) ++ flatV enc l := by simp [flatV]
          rw [this, ih, henc]; rfl
      rw [hfl, List.map_take]
      have hlt : (zs.take len).length = len := by simp; omega
      rw [hlt, Nat.mul_one]
      apply List.ext_getElem?
      intro j
      simp only [List.getElem?_take, List.getElem?_drop, List.getElem?_map]
      split
      · rename_i hj
        have h1 := hc j (by omega)
        simp only [World.cell?, hb] at h1
        have h2 : cur.toList[off + j]? = cur[off + j]? := by simp
        simp at h1
        rw [h2, h1]
        have : j < zs.length := by omega
        simp [this]
      · rfl

theorem arg_ints {P : Program} {H : Type} {enc : TypeId × Value → H} {t e : TypeId} {k : IntKind} {fuel : Nat} {W : World} {a0 : Option Addr} {len cap : Nat} {x : DataW H × List MemPlace} {enc' : Int → List SV}
    (henc : ∀ x, enc' x = [.int k x]) (ht : P.underlying t = some (.slice e)) (he : P.underlying e = some (.int k)) (hc : P.cellsOf e = 1)
    (hf : DataW.trod enc P W 0 (fun _ => true) true fuel t [.slice a0 len cap] = some x) :
    ∃ bs : List Int, bs.length = len ∧ (∀ z ∈ bs, (Lit.int k z).wf = true) ∧ has W (.sl a0 cap) (.roL 1 enc' bs 0) [] := by
  rcases open_ints ht he hc hf with ⟨hcs, _⟩ | ⟨a, len', cap', zs, hcs, _, hl, hm, hz, _, hcell, hwz⟩
  · simp only [List.cons.injEq, Value.slice.injEq, and_true] at hcs
    obtain ⟨rfl, rfl, rfl⟩ := hcs
    exact ⟨[], rfl, (fun z hz => by cases hz), rfl, fun x => by rw [henc]; rfl, by simp, .inl rfl⟩
  · simp at hcs
    obtain ⟨rfl, rfl, rfl⟩ := hcs
    simp only [if_true] at hz
    exact ⟨zs.take len, by simp; omega, fun z hz => hwz z (List.mem_of_mem_take hz), ro_ints (k := k) (len := len) henc hl hz hcell⟩

theorem ro_gen {W : World} {α : Type} {a : Addr} {len cap : Nat} {zs : List α} {enc : α → List SV} {sv : α → SV} {d : α} (henc : ∀ x, enc x = [sv x]) (hl : len ≤ cap) (hz : zs.length = cap) (hcell : ∀ i, i < zs.length → W.cell? (a.add i) = some (den (sv (zs.getD i d)))) :
    has W (.sl (some a) cap) (.roL 1 enc (zs.take len) d) [] := by
  by_cases h0 : len = 0
  · subst h0
    exact ⟨rfl, (fun x => by rw [henc]; rfl), by simp, .inl (by simp)⟩
  · obtain ⟨b, off, spot⟩ := a
    have hspot : spot = none := by simpa [Addr.add] using World.cell?_spot (hcell 0 (by omega))
    subst hspot
    have hc : ∀ j, j < zs.length → W.cell? ⟨b, off + j, none⟩ = some (den (sv (zs.getD j d))) := fun j hj => by rw [← Go.WideShapes.add_plain]; exact hcell j hj
    have hc0 := hc 0 (by omega)
    have hc1 : ∃ cur T fr, W.heap[b]? = some (.cells cur T fr) := by
      simp only [World.cell?] at hc0
      split at hc0
      · rename_i cur T fr hh; exact ⟨_, _, _, hh⟩
      · cases hc0
    obtain ⟨cur, T, fr, hb⟩ := hc1
    refine ⟨rfl, (fun x => by rw [henc]; rfl), by simp; omega, .inr ⟨b, off, cur, T, fr, rfl, hb, ?_⟩⟩
    have hfl : ∀ l : List α, flatV enc l = l.map fun x => den (sv x) := by
      intro l
      induction l with
      | nil => rfl
      | cons x l ih =>
        have : flatV enc (x :: l) = denL (enc x) ++ flatV enc l := by simp [flatV]
        rw [this, ih, henc]; rfl
    rw [hfl, List.map_take]
    have hlt : (zs.take len).length = len := by simp; omega
    rw [hlt, Nat.mul_one]
    apply List.ext_getElem?
    intro j
    simp only [List.getElem?_take, List.getElem?_drop, List.getElem?_map]
    split
    · rename_i hj
      have h1 := hc j (by omega)
      simp only [World.cell?, hb] at h1
      have h2 : cur.toList[off + j]? = cur[off + j]? := by simp
      simp at h1
      rw [h2, h1]
      have : j < zs.length := by omega
      simp [this]
    · rfl

theorem arg_bools {P : Program} {H : Type} {enc : TypeId × Value → H} {t e : TypeId} {fuel : Nat} {W : World} {a0 : Option Addr} {len cap : Nat} {x : DataW H × List MemPlace} {enc' : Bool → List SV}
    (henc : ∀ x, enc' x = [.bool x]) (ht : P.underlying t = some (.slice e)) (he : P.underlying e = some .bool) (hc : P.cellsOf e = 1)
    (hf : DataW.trod enc P W 0 (fun _ => true) true fuel t [.slice a0 len cap] = some x) :
    ∃ bs : List Bool, bs.length = len ∧ has W (.sl a0 cap) (.roL 1 enc' bs false) [] := by
  rcases Go.Deep.open_bools ht he hc hf with ⟨hcs, _⟩ | ⟨a, len', cap', B, hcs, _, hl, hm, _, hcell⟩
  · simp only [List.cons.injEq, Value.slice.injEq, and_true] at hcs
    obtain ⟨rfl, rfl, rfl⟩ := hcs
    exact ⟨[], rfl, rfl, fun x => by rw [henc]; rfl, by simp, .inl rfl⟩
  · simp at hcs
    obtain ⟨rfl, rfl, rfl⟩ := hcs
    have hlen : ((List.range cap).map B).length = cap := by simp
    refine ⟨((List.range cap).map B).take len, by simp; omega, ro_gen (sv := SV.bool) henc hl hlen fun i hi => ?_⟩
    rw [hlen] at hi
    rw [hcell i hi]
    simp [List.getD, hi, den]

theorem arg_strs {P : Program} {H : Type} {enc : TypeId × Value → H} {t e : TypeId} {fuel : Nat} {W : World} {a0 : Option Addr} {len cap : Nat} {x : DataW H × List MemPlace} {enc' : ByteArray → List SV}
    (henc : ∀ x, enc' x = [.str x]) (ht : P.underlying t = some (.slice e)) (he : P.underlying e = some .string) (hc : P.cellsOf e = 1)
    (hf : DataW.trod enc P W 0 (fun _ => true) true fuel t [.slice a0 len cap] = some x) :
    ∃ bs : List ByteArray, bs.length = len ∧ (∀ s ∈ bs, s.size ≤ maxLen) ∧ has W (.sl a0 cap) (.roL 1 enc' bs .empty) [] := by
  rcases Go.Deep.open_strs ht he hc hf with ⟨hcs, _⟩ | ⟨a, len', cap', m, S, hcs, _, hl, hm, hmm, _, hcell⟩
  · simp only [List.cons.injEq, Value.slice.injEq, and_true] at hcs
    obtain ⟨rfl, rfl, rfl⟩ := hcs
    exact ⟨[], rfl, (fun s hs => by cases hs), rfl, fun x => by rw [henc]; rfl, by simp, .inl rfl⟩
  · simp at hcs
    obtain ⟨rfl, rfl, rfl⟩ := hcs
    simp only [if_true] at hmm
    subst hmm
    have hlen : ((List.range m).map S).length = m := by simp
    refine ⟨((List.range m).map S).take len, by simp; omega, fun s hs => ?_, ro_gen (sv := SV.str) henc hl hlen fun i hi => ?_⟩
    · obtain ⟨i, hi, rfl⟩ := List.mem_map.1 (List.mem_of_mem_take hs)
      exact (hcell i (List.mem_range.1 hi)).2
    · rw [hlen] at hi
      rw [(hcell i hi).1]
      simp [List.getD, hi, den]

theorem calls_ints {P : Program} {H : Type} {enc : TypeId × Value → H} {f : FuncId} {t e : TypeId} {k : IntKind} {fuel : Nat} {W : World} {a0 : Option Addr} {len cap : Nat} {x : DataW H × List MemPlace} {v : SV} {enc' : Int → List SV}
    (henc : ∀ x, enc' x = [.int k x]) (ht : P.underlying t = some (.slice e)) (he : P.underlying e = some (.int k)) (hc : P.cellsOf e = 1)
    (hf : DataW.trod enc P W 0 (fun _ => true) true fuel t [.slice a0 len cap] = some x)
    (h : ∀ (ao : Option Addr) (bs : List Int) (cap : Nat), (∀ z ∈ bs, (Lit.int k z).wf = true) → Spec P f [⟨.sl ao cap, .roL 1 enc' bs 0⟩] [.vec 0 ao bs.length cap] fun _ r => r = v) :
    Calls P f #[.slice a0 len cap] W fun e W' => e = .returned (den v) ∧ Below W.heap.size W W' := by
  obtain ⟨bs, rfl, hw, hh⟩ := arg_ints henc ht he hc hf
  have h4 := Spec.rowR (W := W) (hs := [⟨.sl a0 cap, .roL 1 enc' bs 0⟩]) (fun e he => by rcases List.mem_singleton.1 he with rfl; exact hh) (h a0 bs cap hw)
  exact h4
end Go.Proofs.Ytkcmgcoppecfpaa

