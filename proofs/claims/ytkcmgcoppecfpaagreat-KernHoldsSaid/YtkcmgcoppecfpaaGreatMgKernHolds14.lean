import Derived.Test.YtkcmgcoppecfpaaGreatMgKernHolds11
import Derived.Test.YtkcmgcoppecfpaaGreatMgKernHolds6
/- YtkcmgcoppecfpaaGreatKh1Run -/
namespace Go.Proofs.YtkcmgcoppecfpaaGreat
set_option linter.unusedVariables false
open Go Go.RowKit
set_option maxHeartbeats 0
set_option maxRecDepth 100000
set_option linter.unusedVariables false
set_option maxRecDepth 100000

theorem kh_l1 (K : List Frm → Sy → Prop) (N : List Ent → SV → Prop) (J : Act → World → Prop) (ao : Option Addr) (cap : Nat) (bs : List Int) (bn bk bp bg : Nat) (pt : PT) (gr : Grp) (v2 v3 : Value) (m w : Int) (last : Int) (i : Nat) (u : Nat → Value) : (run Tryz.prog khT false [18] K (retP Tryz.prog Tryz.f3.results.toList N) 1500 (frm [J] (bodyOf Tryz.f3) [1, 1, 1, 1, 1, 1, 1, 0, 1, 0, 0] []) ⟨mkT u 164 0 [(0, .vec 0 ao bs.length cap), (3, .ptr 4 bk 0), (4, .ptr 1 bn 0), (6, .int .i64 last), (7, .int .i64 (i : Int))], [⟨.sl ao cap, .roL 1 encU8 bs 0⟩, ⟨.sl (some ⟨bn, 0, none⟩) 3, .vecL 26 1 encS names3 ByteArray.empty⟩, pkA bp ptE (pt), pkA bg grpE (gr), ⟨.blk bk, .cells [.ptr 2 bp 0, .ptr 3 bg 0, .raw v2, .raw v3, .int .i64 m, .int .i64 w] 96⟩]⟩) = (
match decide ((↑i : Int) < (↑(List.length bs) : Int)) with
| true =>
 (ao = ao ∧ cap = cap ∧ List.length bs = List.length bs ∧ (0 : Int) ≤ (↑i : Int) ∧ (↑i : Int) < (↑(List.length bs) : Int)) ∧
  (Addr.blkD ao = Addr.blkD ao ∧ Addr.offD ao = Addr.offD ao ∧ 1 = 1 ∧ Int.toNat (↑i : Int) < List.length bs) ∧
   (8 : Int) ≠ (0 : Int) ∧
    IntKind.wrap IntKind.i64 (last + (1 : Int)) ≠ (0 : Int) ∧
     K (frmR [J] (bodyOf Tryz.f3) 18)
      (Sy.mk (SV.vec 0 ao (List.length bs) cap :: (SV.raw (u 1) :: (SV.raw (u 2) :: (SV.ptr 4 bk 0 :: (SV.ptr 1 bn 0 :: (SV.raw (u 5) :: (SV.int IntKind.i64 last :: (SV.int IntKind.i64 (↑i : Int) :: (SV.int IntKind.i64 (IntKind.wrap IntKind.i64 (Int.tmod (IntKind.wrap IntKind.i64 (IntKind.wrap IntKind.u8 (Int.tdiv (List.getD bs (Int.toNat (↑i : Int)) (0 : Int)) (8 : Int)))) (IntKind.wrap IntKind.i64 (last + (1 : Int))) + (1 : Int))) :: (SV.int IntKind.i64 (0 : Int) :: (rawR u 10 (SV.int IntKind.i64 (↑i : Int) :: (SV.vec 0 ao (List.length bs) cap :: (SV.int IntKind.i64 (↑(List.length bs) : Int) :: (SV.bool true :: (SV.raw (u 40) :: (SV.raw (u 41) :: (SV.vec 0 ao (List.length bs) cap :: (SV.int IntKind.i64 (↑i : Int) :: (SV.eptr 0 (Addr.blkD ao) (Addr.offD ao) 1 (Int.toNat (↑i : Int)) 0 :: (SV.int IntKind.u8 (List.getD bs (Int.toNat (↑i : Int)) (0 : Int)) :: (SV.int IntKind.u8 (IntKind.wrap IntKind.u8 (Int.tdiv (List.getD bs (Int.toNat (↑i : Int)) (0 : Int)) (8 : Int))) :: (SV.int IntKind.i64 (IntKind.wrap IntKind.i64 (IntKind.wrap IntKind.u8 (Int.tdiv (List.getD bs (Int.toNat (↑i : Int)) (0 : Int)) (8 : Int)))) :: (SV.int IntKind.i64 last :: (SV.int IntKind.i64 (IntKind.wrap IntKind.i64 (last + (1 : Int))) :: (SV.int IntKind.i64 (Int.tmod (IntKind.wrap IntKind.i64 (IntKind.wrap IntKind.u8 (Int.tdiv (List.getD bs (Int.toNat (↑i : Int)) (0 : Int)) (8 : Int)))) (IntKind.wrap IntKind.i64 (last + (1 : Int)))) :: (SV.int IntKind.i64 (IntKind.wrap IntKind.i64 (Int.tmod (IntKind.wrap IntKind.i64 (IntKind.wrap IntKind.u8 (Int.tdiv (List.getD bs (Int.toNat (↑i : Int)) (0 : Int)) (8 : Int)))) (IntKind.wrap IntKind.i64 (last + (1 : Int))) + (1 : Int))) :: (rawR u 52 [] 112))))))))))))))))) 26)))))))))))
       [Ent.mk (Loc.sl ao cap) (SObj.roL 1 encU8 bs (0 : Int)),
        Ent.mk (Loc.sl (some (Addr.mk bn 0 (@none Nat))) 3)
         (SObj.vecL (26 : TypeId) 1 encS [ByteArray.mk #[(97 : UInt8)], ByteArray.mk #[(98 : UInt8)], ByteArray.mk #[(99 : UInt8)]] ByteArray.empty),
        pkA bp ptE pt, pkA bg grpE gr,
        Ent.mk (Loc.blk bk) (SObj.cells [SV.ptr 2 bp 0, SV.ptr 3 bg 0, SV.raw v2, SV.raw v3, SV.int IntKind.i64 m, SV.int IntKind.i64 w] (96 : TypeId))])
| false =>
 N
  [Ent.mk (Loc.sl ao cap) (SObj.roL 1 encU8 bs (0 : Int)),
   Ent.mk (Loc.sl (some (Addr.mk bn 0 (@none Nat))) 3)
    (SObj.vecL (26 : TypeId) 1 encS [ByteArray.mk #[(97 : UInt8)], ByteArray.mk #[(98 : UInt8)], ByteArray.mk #[(99 : UInt8)]] ByteArray.empty),
   pkA bp ptE pt, pkA bg grpE gr,
   Ent.mk (Loc.blk bk) (SObj.cells [SV.ptr 2 bp 0, SV.ptr 3 bg 0, SV.raw v2, SV.raw v3, SV.int IntKind.i64 m, SV.int IntKind.i64 w] (96 : TypeId))]
  (SV.bool true)) := by kernel_rfl


theorem kh_18 (K : List Frm → Sy → Prop) (N : List Ent → SV → Prop) (J0 : Act → World → Prop) (ao : Option Addr) (cap : Nat) (bs : List Int) (bn bk bp bg : Nat) (pt : PT) (gr : Grp) (v2 v3 : Value) (m w : Int) (last : Int) (i : Nat) (x : Int) (u : Nat → Value) : (run Tryz.prog khT false [22, 25, 27, 29, 31, 19] K (retP Tryz.prog Tryz.f3.results.toList N) 1500 (frmR [J0] (bodyOf Tryz.f3) 18) ⟨mkT u 164 0 [(0, .vec 0 ao bs.length cap), (3, .ptr 4 bk 0), (4, .ptr 1 bn 0), (6, .int .i64 last), (7, .int .i64 (i : Int)), (8, .int .i64 x), (9, .int .i64 0)], [⟨.sl ao cap, .roL 1 encU8 bs 0⟩, ⟨.sl (some ⟨bn, 0, none⟩) 3, .vecL 26 1 encS names3 ByteArray.empty⟩, pkA bp ptE (pt), pkA bg grpE (gr), ⟨.blk bk, .cells [.ptr 2 bp 0, .ptr 3 bg 0, .raw v2, .raw v3, .int .i64 m, .int .i64 w] 96⟩]⟩) = (
(ao = ao ∧ cap = cap ∧ List.length bs = List.length bs ∧ (0 : Int) ≤ (↑i : Int) ∧ (↑i : Int) < (↑(List.length bs) : Int)) ∧
 (Addr.blkD ao = Addr.blkD ao ∧ Addr.offD ao = Addr.offD ao ∧ 1 = 1 ∧ Int.toNat (↑i : Int) < List.length bs) ∧
  (8 : Int) ≠ (0 : Int) ∧
   match Int.tmod (List.getD bs (Int.toNat (↑i : Int)) (0 : Int)) (8 : Int) == (0 : Int) with
   | true =>
    K (frmR [J0] (bodyOf Tryz.f3) 22)
     (Sy.mk (SV.vec 0 ao (List.length bs) cap :: (SV.raw (u 1) :: (SV.raw (u 2) :: (SV.ptr 4 bk 0 :: (SV.ptr 1 bn 0 :: (SV.raw (u 5) :: (SV.int IntKind.i64 last :: (SV.int IntKind.i64 (↑i : Int) :: (SV.int IntKind.i64 x :: (SV.int IntKind.i64 (0 : Int) :: (rawR u 10 (SV.vec 0 ao (List.length bs) cap :: (SV.int IntKind.i64 (↑i : Int) :: (SV.eptr 0 (Addr.blkD ao) (Addr.offD ao) 1 (Int.toNat (↑i : Int)) 0 :: (SV.int IntKind.u8 (List.getD bs (Int.toNat (↑i : Int)) (0 : Int)) :: (SV.int IntKind.u8 (Int.tmod (List.getD bs (Int.toNat (↑i : Int)) (0 : Int)) (8 : Int)) :: (SV.raw (u 57) :: (SV.raw (u 58) :: (SV.bool true :: ((SV.bool (Int.tmod (List.getD bs (Int.toNat (↑i : Int)) (0 : Int)) (8 : Int) == (0 : Int))) :: (rawR u 61 [] 103)))))))))) 42)))))))))))
      [Ent.mk (Loc.sl ao cap) (SObj.roL 1 encU8 bs (0 : Int)),
       Ent.mk (Loc.sl (some (Addr.mk bn 0 (@none Nat))) 3)
        (SObj.vecL (26 : TypeId) 1 encS [ByteArray.mk #[(97 : UInt8)], ByteArray.mk #[(98 : UInt8)], ByteArray.mk #[(99 : UInt8)]] ByteArray.empty),
       pkA bp ptE pt, pkA bg grpE gr,
       Ent.mk (Loc.blk bk) (SObj.cells [SV.ptr 2 bp 0, SV.ptr 3 bg 0, SV.raw v2, SV.raw v3, SV.int IntKind.i64 m, SV.int IntKind.i64 w] (96 : TypeId))])
   | false =>
    match Int.tmod (List.getD bs (Int.toNat (↑i : Int)) (0 : Int)) (8 : Int) == (1 : Int) with
    | true =>
     K (frmR [J0] (bodyOf Tryz.f3) 22)
      (Sy.mk (SV.vec 0 ao (List.length bs) cap :: (SV.raw (u 1) :: (SV.raw (u 2) :: (SV.ptr 4 bk 0 :: (SV.ptr 1 bn 0 :: (SV.raw (u 5) :: (SV.int IntKind.i64 last :: (SV.int IntKind.i64 (↑i : Int) :: (SV.int IntKind.i64 x :: (SV.int IntKind.i64 (0 : Int) :: (rawR u 10 (SV.vec 0 ao (List.length bs) cap :: (SV.int IntKind.i64 (↑i : Int) :: (SV.eptr 0 (Addr.blkD ao) (Addr.offD ao) 1 (Int.toNat (↑i : Int)) 0 :: (SV.int IntKind.u8 (List.getD bs (Int.toNat (↑i : Int)) (0 : Int)) :: (SV.int IntKind.u8 (Int.tmod (List.getD bs (Int.toNat (↑i : Int)) (0 : Int)) (8 : Int)) :: (SV.raw (u 57) :: (SV.raw (u 58) :: (SV.bool true :: ((SV.bool (Int.tmod (List.getD bs (Int.toNat (↑i : Int)) (0 : Int)) (8 : Int) == (0 : Int))) :: ((SV.bool (Int.tmod (List.getD bs (Int.toNat (↑i : Int)) (0 : Int)) (8 : Int) == (1 : Int))) :: (rawR u 62 [] 102))))))))))) 42)))))))))))
       [Ent.mk (Loc.sl ao cap) (SObj.roL 1 encU8 bs (0 : Int)),
        Ent.mk (Loc.sl (some (Addr.mk bn 0 (@none Nat))) 3)
         (SObj.vecL (26 : TypeId) 1 encS [ByteArray.mk #[(97 : UInt8)], ByteArray.mk #[(98 : UInt8)], ByteArray.mk #[(99 : UInt8)]] ByteArray.empty),
        pkA bp ptE pt, pkA bg grpE gr,
        Ent.mk (Loc.blk bk) (SObj.cells [SV.ptr 2 bp 0, SV.ptr 3 bg 0, SV.raw v2, SV.raw v3, SV.int IntKind.i64 m, SV.int IntKind.i64 w] (96 : TypeId))])
    | false =>
     match Int.tmod (List.getD bs (Int.toNat (↑i : Int)) (0 : Int)) (8 : Int) == (2 : Int) with
     | true =>
      K (frmR [J0] (bodyOf Tryz.f3) 25)
       (Sy.mk (SV.vec 0 ao (List.length bs) cap :: (SV.raw (u 1) :: (SV.raw (u 2) :: (SV.ptr 4 bk 0 :: (SV.ptr 1 bn 0 :: (SV.raw (u 5) :: (SV.int IntKind.i64 last :: (SV.int IntKind.i64 (↑i : Int) :: (SV.int IntKind.i64 x :: (SV.int IntKind.i64 (0 : Int) :: (rawR u 10 (SV.vec 0 ao (List.length bs) cap :: (SV.int IntKind.i64 (↑i : Int) :: (SV.eptr 0 (Addr.blkD ao) (Addr.offD ao) 1 (Int.toNat (↑i : Int)) 0 :: (SV.int IntKind.u8 (List.getD bs (Int.toNat (↑i : Int)) (0 : Int)) :: (SV.int IntKind.u8 (Int.tmod (List.getD bs (Int.toNat (↑i : Int)) (0 : Int)) (8 : Int)) :: (SV.raw (u 57) :: (SV.raw (u 58) :: (SV.bool false :: ((SV.bool (Int.tmod (List.getD bs (Int.toNat (↑i : Int)) (0 : Int)) (8 : Int) == (0 : Int))) :: ((SV.bool (Int.tmod (List.getD bs (Int.toNat (↑i : Int)) (0 : Int)) (8 : Int) == (1 : Int))) :: (rawR u 62 (SV.bool true :: ((SV.bool (Int.tmod (List.getD bs (Int.toNat (↑i : Int)) (0 : Int)) (8 : Int) == (2 : Int))) :: (rawR u 77 [] 87))) 13))))))))))) 42)))))))))))
        [Ent.mk (Loc.sl ao cap) (SObj.roL 1 encU8 bs (0 : Int)),
         Ent.mk (Loc.sl (some (Addr.mk bn 0 (@none Nat))) 3)
          (SObj.vecL (26 : TypeId) 1 encS [ByteArray.mk #[(97 : UInt8)], ByteArray.mk #[(98 : UInt8)], ByteArray.mk #[(99 : UInt8)]] ByteArray.empty),
         pkA bp ptE pt, pkA bg grpE gr,
         Ent.mk (Loc.blk bk) (SObj.cells [SV.ptr 2 bp 0, SV.ptr 3 bg 0, SV.raw v2, SV.raw v3, SV.int IntKind.i64 m, SV.int IntKind.i64 w] (96 : TypeId))])
     | false =>
      match Int.tmod (List.getD bs (Int.toNat (↑i : Int)) (0 : Int)) (8 : Int) == (3 : Int) with
      | true =>
       K (frmR [J0] (bodyOf Tryz.f3) 25)
        (Sy.mk (SV.vec 0 ao (List.length bs) cap :: (SV.raw (u 1) :: (SV.raw (u 2) :: (SV.ptr 4 bk 0 :: (SV.ptr 1 bn 0 :: (SV.raw (u 5) :: (SV.int IntKind.i64 last :: (SV.int IntKind.i64 (↑i : Int) :: (SV.int IntKind.i64 x :: (SV.int IntKind.i64 (0 : Int) :: (rawR u 10 (SV.vec 0 ao (List.length bs) cap :: (SV.int IntKind.i64 (↑i : Int) :: (SV.eptr 0 (Addr.blkD ao) (Addr.offD ao) 1 (Int.toNat (↑i : Int)) 0 :: (SV.int IntKind.u8 (List.getD bs (Int.toNat (↑i : Int)) (0 : Int)) :: (SV.int IntKind.u8 (Int.tmod (List.getD bs (Int.toNat (↑i : Int)) (0 : Int)) (8 : Int)) :: (SV.raw (u 57) :: (SV.raw (u 58) :: (SV.bool false :: ((SV.bool (Int.tmod (List.getD bs (Int.toNat (↑i : Int)) (0 : Int)) (8 : Int) == (0 : Int))) :: ((SV.bool (Int.tmod (List.getD bs (Int.toNat (↑i : Int)) (0 : Int)) (8 : Int) == (1 : Int))) :: (rawR u 62 (SV.bool true :: ((SV.bool (Int.tmod (List.getD bs (Int.toNat (↑i : Int)) (0 : Int)) (8 : Int) == (2 : Int))) :: ((SV.bool (Int.tmod (List.getD bs (Int.toNat (↑i : Int)) (0 : Int)) (8 : Int) == (3 : Int))) :: (rawR u 78 [] 86)))) 13))))))))))) 42)))))))))))
         [Ent.mk (Loc.sl ao cap) (SObj.roL 1 encU8 bs (0 : Int)),
          Ent.mk (Loc.sl (some (Addr.mk bn 0 (@none Nat))) 3)
           (SObj.vecL (26 : TypeId) 1 encS [ByteArray.mk #[(97 : UInt8)], ByteArray.mk #[(98 : UInt8)], ByteArray.mk #[(99 : UInt8)]] ByteArray.empty),
          pkA bp ptE pt, pkA bg grpE gr,
          Ent.mk (Loc.blk bk) (SObj.cells [SV.ptr 2 bp 0, SV.ptr 3 bg 0, SV.raw v2, SV.raw v3, SV.int IntKind.i64 m, SV.int IntKind.i64 w] (96 : TypeId))])
      | false =>
       match Int.tmod (List.getD bs (Int.toNat (↑i : Int)) (0 : Int)) (8 : Int) == (4 : Int) with
       | true =>
        K (frmR [J0] (bodyOf Tryz.f3) 27)
         (Sy.mk (SV.vec 0 ao (List.length bs) cap :: (SV.raw (u 1) :: (SV.raw (u 2) :: (SV.ptr 4 bk 0 :: (SV.ptr 1 bn 0 :: (SV.raw (u 5) :: (SV.int IntKind.i64 last :: (SV.int IntKind.i64 (↑i : Int) :: (SV.int IntKind.i64 x :: (SV.int IntKind.i64 (0 : Int) :: (rawR u 10 (SV.vec 0 ao (List.length bs) cap :: (SV.int IntKind.i64 (↑i : Int) :: (SV.eptr 0 (Addr.blkD ao) (Addr.offD ao) 1 (Int.toNat (↑i : Int)) 0 :: (SV.int IntKind.u8 (List.getD bs (Int.toNat (↑i : Int)) (0 : Int)) :: (SV.int IntKind.u8 (Int.tmod (List.getD bs (Int.toNat (↑i : Int)) (0 : Int)) (8 : Int)) :: (SV.raw (u 57) :: (SV.raw (u 58) :: (SV.bool false :: ((SV.bool (Int.tmod (List.getD bs (Int.toNat (↑i : Int)) (0 : Int)) (8 : Int) == (0 : Int))) :: ((SV.bool (Int.tmod (List.getD bs (Int.toNat (↑i : Int)) (0 : Int)) (8 : Int) == (1 : Int))) :: (rawR u 62 (SV.bool false :: ((SV.bool (Int.tmod (List.getD bs (Int.toNat (↑i : Int)) (0 : Int)) (8 : Int) == (2 : Int))) :: ((SV.bool (Int.tmod (List.getD bs (Int.toNat (↑i : Int)) (0 : Int)) (8 : Int) == (3 : Int))) :: (rawR u 78 (SV.bool true :: ((SV.bool (Int.tmod (List.getD bs (Int.toNat (↑i : Int)) (0 : Int)) (8 : Int) == (4 : Int))) :: (rawR u 86 [] 78))) 6)))) 13))))))))))) 42)))))))))))
          [Ent.mk (Loc.sl ao cap) (SObj.roL 1 encU8 bs (0 : Int)),
           Ent.mk (Loc.sl (some (Addr.mk bn 0 (@none Nat))) 3)
            (SObj.vecL (26 : TypeId) 1 encS [ByteArray.mk #[(97 : UInt8)], ByteArray.mk #[(98 : UInt8)], ByteArray.mk #[(99 : UInt8)]] ByteArray.empty),
           pkA bp ptE pt, pkA bg grpE gr,
           Ent.mk (Loc.blk bk) (SObj.cells [SV.ptr 2 bp 0, SV.ptr 3 bg 0, SV.raw v2, SV.raw v3, SV.int IntKind.i64 m, SV.int IntKind.i64 w] (96 : TypeId))])
       | false =>
        match Int.tmod (List.getD bs (Int.toNat (↑i : Int)) (0 : Int)) (8 : Int) == (5 : Int) with
        | true =>
         K (frmR [J0] (bodyOf Tryz.f3) 29)
          (Sy.mk (SV.vec 0 ao (List.length bs) cap :: (SV.raw (u 1) :: (SV.raw (u 2) :: (SV.ptr 4 bk 0 :: (SV.ptr 1 bn 0 :: (SV.raw (u 5) :: (SV.int IntKind.i64 last :: (SV.int IntKind.i64 (↑i : Int) :: (SV.int IntKind.i64 x :: (SV.int IntKind.i64 (0 : Int) :: (rawR u 10 (SV.vec 0 ao (List.length bs) cap :: (SV.int IntKind.i64 (↑i : Int) :: (SV.eptr 0 (Addr.blkD ao) (Addr.offD ao) 1 (Int.toNat (↑i : Int)) 0 :: (SV.int IntKind.u8 (List.getD bs (Int.toNat (↑i : Int)) (0 : Int)) :: (SV.int IntKind.u8 (Int.tmod (List.getD bs (Int.toNat (↑i : Int)) (0 : Int)) (8 : Int)) :: (SV.raw (u 57) :: (SV.raw (u 58) :: (SV.bool false :: ((SV.bool (Int.tmod (List.getD bs (Int.toNat (↑i : Int)) (0 : Int)) (8 : Int) == (0 : Int))) :: ((SV.bool (Int.tmod (List.getD bs (Int.toNat (↑i : Int)) (0 : Int)) (8 : Int) == (1 : Int))) :: (rawR u 62 (SV.bool false :: ((SV.bool (Int.tmod (List.getD bs (Int.toNat (↑i : Int)) (0 : Int)) (8 : Int) == (2 : Int))) :: ((SV.bool (Int.tmod (List.getD bs (Int.toNat (↑i : Int)) (0 : Int)) (8 : Int) == (3 : Int))) :: (rawR u 78 (SV.bool false :: ((SV.bool (Int.tmod (List.getD bs (Int.toNat (↑i : Int)) (0 : Int)) (8 : Int) == (4 : Int))) :: (rawR u 86 (SV.bool true :: ((SV.bool (Int.tmod (List.getD bs (Int.toNat (↑i : Int)) (0 : Int)) (8 : Int) == (5 : Int))) :: (rawR u 91 [] 73))) 3))) 6)))) 13))))))))))) 42)))))))))))
           [Ent.mk (Loc.sl ao cap) (SObj.roL 1 encU8 bs (0 : Int)),
            Ent.mk (Loc.sl (some (Addr.mk bn 0 (@none Nat))) 3)
             (SObj.vecL (26 : TypeId) 1 encS [ByteArray.mk #[(97 : UInt8)], ByteArray.mk #[(98 : UInt8)], ByteArray.mk #[(99 : UInt8)]] ByteArray.empty),
            pkA bp ptE pt, pkA bg grpE gr,
            Ent.mk (Loc.blk bk)
             (SObj.cells [SV.ptr 2 bp 0, SV.ptr 3 bg 0, SV.raw v2, SV.raw v3, SV.int IntKind.i64 m, SV.int IntKind.i64 w] (96 : TypeId))])
        | false =>
         match Int.tmod (List.getD bs (Int.toNat (↑i : Int)) (0 : Int)) (8 : Int) == (6 : Int) with
         | true =>
          K (frmR [J0] (bodyOf Tryz.f3) 31)
           (Sy.mk (SV.vec 0 ao (List.length bs) cap :: (SV.raw (u 1) :: (SV.raw (u 2) :: (SV.ptr 4 bk 0 :: (SV.ptr 1 bn 0 :: (SV.raw (u 5) :: (SV.int IntKind.i64 last :: (SV.int IntKind.i64 (↑i : Int) :: (SV.int IntKind.i64 x :: (SV.int IntKind.i64 (0 : Int) :: (rawR u 10 (SV.vec 0 ao (List.length bs) cap :: (SV.int IntKind.i64 (↑i : Int) :: (SV.eptr 0 (Addr.blkD ao) (Addr.offD ao) 1 (Int.toNat (↑i : Int)) 0 :: (SV.int IntKind.u8 (List.getD bs (Int.toNat (↑i : Int)) (0 : Int)) :: (SV.int IntKind.u8 (Int.tmod (List.getD bs (Int.toNat (↑i : Int)) (0 : Int)) (8 : Int)) :: (SV.raw (u 57) :: (SV.raw (u 58) :: (SV.bool false :: ((SV.bool (Int.tmod (List.getD bs (Int.toNat (↑i : Int)) (0 : Int)) (8 : Int) == (0 : Int))) :: ((SV.bool (Int.tmod (List.getD bs (Int.toNat (↑i : Int)) (0 : Int)) (8 : Int) == (1 : Int))) :: (rawR u 62 (SV.bool false :: ((SV.bool (Int.tmod (List.getD bs (Int.toNat (↑i : Int)) (0 : Int)) (8 : Int) == (2 : Int))) :: ((SV.bool (Int.tmod (List.getD bs (Int.toNat (↑i : Int)) (0 : Int)) (8 : Int) == (3 : Int))) :: (rawR u 78 (SV.bool false :: ((SV.bool (Int.tmod (List.getD bs (Int.toNat (↑i : Int)) (0 : Int)) (8 : Int) == (4 : Int))) :: (rawR u 86 (SV.bool false :: ((SV.bool (Int.tmod (List.getD bs (Int.toNat (↑i : Int)) (0 : Int)) (8 : Int) == (5 : Int))) :: (rawR u 91 (SV.bool true :: ((SV.bool (Int.tmod (List.getD bs (Int.toNat (↑i : Int)) (0 : Int)) (8 : Int) == (6 : Int))) :: (rawR u 103 [] 61))) 10))) 3))) 6)))) 13))))))))))) 42)))))))))))
            [Ent.mk (Loc.sl ao cap) (SObj.roL 1 encU8 bs (0 : Int)),
             Ent.mk (Loc.sl (some (Addr.mk bn 0 (@none Nat))) 3)
              (SObj.vecL (26 : TypeId) 1 encS [ByteArray.mk #[(97 : UInt8)], ByteArray.mk #[(98 : UInt8)], ByteArray.mk #[(99 : UInt8)]] ByteArray.empty),
             pkA bp ptE pt, pkA bg grpE gr,
             Ent.mk (Loc.blk bk)
              (SObj.cells [SV.ptr 2 bp 0, SV.ptr 3 bg 0, SV.raw v2, SV.raw v3, SV.int IntKind.i64 m, SV.int IntKind.i64 w] (96 : TypeId))])
         | false =>
          K (frmR [J0] (bodyOf Tryz.f3) 19)
           (Sy.mk (SV.vec 0 ao (List.length bs) cap :: (SV.raw (u 1) :: (SV.raw (u 2) :: (SV.ptr 4 bk 0 :: (SV.ptr 1 bn 0 :: (SV.raw (u 5) :: (SV.int IntKind.i64 last :: (SV.int IntKind.i64 (↑i : Int) :: (SV.int IntKind.i64 x :: (SV.int IntKind.i64 (0 : Int) :: (rawR u 10 (SV.vec 0 ao (List.length bs) cap :: (SV.int IntKind.i64 (↑i : Int) :: (SV.eptr 0 (Addr.blkD ao) (Addr.offD ao) 1 (Int.toNat (↑i : Int)) 0 :: (SV.int IntKind.u8 (List.getD bs (Int.toNat (↑i : Int)) (0 : Int)) :: (SV.int IntKind.u8 (Int.tmod (List.getD bs (Int.toNat (↑i : Int)) (0 : Int)) (8 : Int)) :: (SV.raw (u 57) :: (SV.raw (u 58) :: (SV.bool false :: ((SV.bool (Int.tmod (List.getD bs (Int.toNat (↑i : Int)) (0 : Int)) (8 : Int) == (0 : Int))) :: ((SV.bool (Int.tmod (List.getD bs (Int.toNat (↑i : Int)) (0 : Int)) (8 : Int) == (1 : Int))) :: (rawR u 62 (SV.bool false :: ((SV.bool (Int.tmod (List.getD bs (Int.toNat (↑i : Int)) (0 : Int)) (8 : Int) == (2 : Int))) :: ((SV.bool (Int.tmod (List.getD bs (Int.toNat (↑i : Int)) (0 : Int)) (8 : Int) == (3 : Int))) :: (rawR u 78 (SV.bool false :: ((SV.bool (Int.tmod (List.getD bs (Int.toNat (↑i : Int)) (0 : Int)) (8 : Int) == (4 : Int))) :: (rawR u 86 (SV.bool false :: ((SV.bool (Int.tmod (List.getD bs (Int.toNat (↑i : Int)) (0 : Int)) (8 : Int) == (5 : Int))) :: (rawR u 91 (SV.bool false :: ((SV.bool (Int.tmod (List.getD bs (Int.toNat (↑i : Int)) (0 : Int)) (8 : Int) == (6 : Int))) :: (rawR u 103 [] 61))) 10))) 3))) 6)))) 13))))))))))) 42)))))))))))
            [Ent.mk (Loc.sl ao cap) (SObj.roL 1 encU8 bs (0 : Int)),
             Ent.mk (Loc.sl (some (Addr.mk bn 0 (@none Nat))) 3)
              (SObj.vecL (26 : TypeId) 1 encS [ByteArray.mk #[(97 : UInt8)], ByteArray.mk #[(98 : UInt8)], ByteArray.mk #[(99 : UInt8)]] ByteArray.empty),
             pkA bp ptE pt, pkA bg grpE gr,
             Ent.mk (Loc.blk bk)
              (SObj.cells [SV.ptr 2 bp 0, SV.ptr 3 bg 0, SV.raw v2, SV.raw v3, SV.int IntKind.i64 m, SV.int IntKind.i64 w] (96 : TypeId))])) := by kernel_rfl


theorem kh_22 (K : List Frm → Sy → Prop) (N : List Ent → SV → Prop) (J0 : Act → World → Prop) (ao : Option Addr) (cap : Nat) (bs : List Int) (bn bk bp bg : Nat) (pt : PT) (gr : Grp) (v2 v3 : Value) (m w : Int) (last : Int) (i : Nat) (u : Nat → Value) : (run Tryz.prog khT false [32] K (retP Tryz.prog Tryz.f3.results.toList N) 1500 (frmR [J0] (bodyOf Tryz.f3) 22) ⟨mkT u 164 0 [(0, .vec 0 ao bs.length cap), (3, .ptr 4 bk 0), (4, .ptr 1 bn 0), (6, .int .i64 last), (7, .int .i64 (i : Int)), (9, .int .i64 0)], [⟨.sl ao cap, .roL 1 encU8 bs 0⟩, ⟨.sl (some ⟨bn, 0, none⟩) 3, .vecL 26 1 encS names3 ByteArray.empty⟩, pkA bp ptE (pt), pkA bg grpE (gr), ⟨.blk bk, .cells [.ptr 2 bp 0, .ptr 3 bg 0, .raw v2, .raw v3, .int .i64 m, .int .i64 w] 96⟩]⟩) = (
(ao = ao ∧ cap = cap ∧ List.length bs = List.length bs ∧ (0 : Int) ≤ (↑i : Int) ∧ (↑i : Int) < (↑(List.length bs) : Int)) ∧
 (Addr.blkD ao = Addr.blkD ao ∧ Addr.offD ao = Addr.offD ao ∧ 1 = 1 ∧ Int.toNat (↑i : Int) < List.length bs) ∧
  (8 : Int) ≠ (0 : Int) ∧
   (3 : Int) ≠ (0 : Int) ∧
    (some (Addr.mk bn 0 (@none Nat)) = some (Addr.mk bn 0 (@none Nat)) ∧
     0 = 0 ∧
      3 = 3 ∧
       (0 : Int) ≤ Int.tmod (IntKind.wrap IntKind.u8 (Int.tdiv (List.getD bs (Int.toNat (↑i : Int)) (0 : Int)) (8 : Int))) (3 : Int) ∧
        Int.tmod (IntKind.wrap IntKind.u8 (Int.tdiv (List.getD bs (Int.toNat (↑i : Int)) (0 : Int)) (8 : Int))) (3 : Int) < (↑3 : Int)) ∧
     (bn = Addr.blkD (some (Addr.mk bn 0 (@none Nat))) ∧
      0 = Addr.offD (some (Addr.mk bn 0 (@none Nat))) ∧
       1 = 1 ∧ Int.toNat (Int.tmod (IntKind.wrap IntKind.u8 (Int.tdiv (List.getD bs (Int.toNat (↑i : Int)) (0 : Int)) (8 : Int))) (3 : Int)) < 3) ∧
      true = true ∧
       true = true ∧
        (bk = bk ∧ (96 : TypeId) = (96 : TypeId) ∧ false = false) ∧
         bg = bg ∧
          ∃ (h : Grp = Grp),
           AdtIs (fun (s : Grp) (b : Nat) ↦ packs (grpE s b)) grpE ∧
            gsOk (cast h gr) ∧
             match
              !Option.isSome
               (mget gr.5
                (Key.s
                 (List.getD [ByteArray.mk #[(97 : UInt8)], ByteArray.mk #[(98 : UInt8)], ByteArray.mk #[(99 : UInt8)]]
                  (Int.toNat (Int.tmod (IntKind.wrap IntKind.u8 (Int.tdiv (List.getD bs (Int.toNat (↑i : Int)) (0 : Int)) (8 : Int))) (3 : Int))) ByteArray.empty))) with
             | true =>
              K (frmR [J0] (bodyOf Tryz.f3) 32)
               (Sy.mk (SV.vec 0 ao (List.length bs) cap :: (SV.raw (u 1) :: (SV.raw (u 2) :: (SV.ptr 4 bk 0 :: (SV.ptr 1 bn 0 :: (SV.raw (u 5) :: (SV.int IntKind.i64 last :: (SV.int IntKind.i64 (↑i : Int) :: (SV.raw (u 8) :: (SV.int IntKind.i64 (0 : Int) :: (rawR u 10 (SV.tuple [SV.int IntKind.i64 (0 : Int), SV.int IntKind.i64 (90 : Int)] :: (SV.ptr 4 bk 0 :: (SV.vec 0 ao (List.length bs) cap :: (SV.int IntKind.i64 (↑i : Int) :: (SV.eptr 0 (Addr.blkD ao) (Addr.offD ao) 1 (Int.toNat (↑i : Int)) 0 :: (SV.int IntKind.u8 (List.getD bs (Int.toNat (↑i : Int)) (0 : Int)) :: (SV.int IntKind.u8 (IntKind.wrap IntKind.u8 (Int.tdiv (List.getD bs (Int.toNat (↑i : Int)) (0 : Int)) (8 : Int))) :: (SV.int IntKind.u8 (Int.tmod (IntKind.wrap IntKind.u8 (Int.tdiv (List.getD bs (Int.toNat (↑i : Int)) (0 : Int)) (8 : Int))) (3 : Int)) :: (SV.eptr 1 bn 0 1 (Int.toNat (Int.tmod (IntKind.wrap IntKind.u8 (Int.tdiv (List.getD bs (Int.toNat (↑i : Int)) (0 : Int)) (8 : Int))) (3 : Int))) 0 :: (SV.str (List.getD [ByteArray.mk #[(97 : UInt8)], ByteArray.mk #[(98 : UInt8)], ByteArray.mk #[(99 : UInt8)]] (Int.toNat (Int.tmod (IntKind.wrap IntKind.u8 (Int.tdiv (List.getD bs (Int.toNat (↑i : Int)) (0 : Int)) (8 : Int))) (3 : Int))) ByteArray.empty) :: (SV.tuple [SV.int IntKind.i64 (0 : Int), SV.int IntKind.i64 (90 : Int)] :: (SV.int IntKind.i64 (0 : Int) :: (SV.int IntKind.i64 (90 : Int) :: (rawR u 75 [] 89)))))))))))))) 52)))))))))))
                [Ent.mk (Loc.sl ao cap) (SObj.roL 1 encU8 bs (0 : Int)),
                 Ent.mk (Loc.sl (some (Addr.mk bn 0 (@none Nat))) 3)
                  (SObj.vecL (26 : TypeId) 1 encS [ByteArray.mk #[(97 : UInt8)], ByteArray.mk #[(98 : UInt8)], ByteArray.mk #[(99 : UInt8)]] ByteArray.empty),
                 pkA bp ptE pt, pkA bg grpE gr,
                 Ent.mk (Loc.blk bk)
                  (SObj.cells [SV.ptr 2 bp 0, SV.ptr 3 bg 0, SV.raw v2, SV.raw v3, SV.int IntKind.i64 m, SV.int IntKind.i64 w] (96 : TypeId))])
             | false =>
              bk = bk ∧
               true = true ∧
                bp = bp ∧
                 ∃ (h : PT = PT),
                  AdtIs (fun (s : PT) (b : Nat) ↦ packs (ptE s b)) ptE ∧
                   pOk pt ∧
                    ∀ (nb : Nat),
                     true = true ∧
                      match
                       (pSpawn pt (1 : Int)
                        (List.getD [ByteArray.mk #[(97 : UInt8)], ByteArray.mk #[(98 : UInt8)], ByteArray.mk #[(99 : UInt8)]]
                         (Int.toNat (Int.tmod (IntKind.wrap IntKind.u8 (Int.tdiv (List.getD bs (Int.toNat (↑i : Int)) (0 : Int)) (8 : Int))) (3 : Int))) ByteArray.empty)
                        (ByteArray.mk #[(99 : UInt8)]) nb).2.2 ==
                        (0 : Int) with
                      | true =>
                       match
                        !sEq
                         (List.getD [ByteArray.mk #[(97 : UInt8)], ByteArray.mk #[(98 : UInt8)], ByteArray.mk #[(99 : UInt8)]]
                          (Int.toNat (Int.tmod (IntKind.wrap IntKind.u8 (Int.tdiv (List.getD bs (Int.toNat (↑i : Int)) (0 : Int)) (8 : Int))) (3 : Int))) ByteArray.empty)
                         (ByteArray.mk #[]) with
                       | true =>
                        bk = bk ∧
                         true = true ∧
                          bg = bg ∧
                           ∃ (h : Grp = Grp),
                            AdtIs (fun (s : Grp) (b : Nat) ↦ packs (grpE s b)) grpE ∧
                             (gOk gr
                              (pSpawn pt (1 : Int)
                               (List.getD [ByteArray.mk #[(97 : UInt8)], ByteArray.mk #[(98 : UInt8)], ByteArray.mk #[(99 : UInt8)]]
                                (Int.toNat (Int.tmod (IntKind.wrap IntKind.u8 (Int.tdiv (List.getD bs (Int.toNat (↑i : Int)) (0 : Int)) (8 : Int))) (3 : Int)))
                                ByteArray.empty)
                               (ByteArray.mk #[(99 : UInt8)]) nb).2.1 ∧
                              keysOk gr.gs) ∧
                              ∀ (ao_1 : Option Addr) (cap_1 : Nat),
                               K (frmR [J0] (bodyOf Tryz.f3) 32)
                                (Sy.mk (SV.vec 0 ao (List.length bs) cap :: (SV.raw (u 1) :: (SV.raw (u 2) :: (SV.ptr 4 bk 0 :: (SV.ptr 1 bn 0 :: (SV.raw (u 5) :: (SV.int IntKind.i64 last :: (SV.int IntKind.i64 (↑i : Int) :: (SV.raw (u 8) :: (SV.int IntKind.i64 (pSpawn pt (1 : Int) (List.getD [ByteArray.mk #[(97 : UInt8)], ByteArray.mk #[(98 : UInt8)], ByteArray.mk #[(99 : UInt8)]] (Int.toNat (Int.tmod (IntKind.wrap IntKind.u8 (Int.tdiv (List.getD bs (Int.toNat (↑i : Int)) (0 : Int)) (8 : Int))) (3 : Int))) ByteArray.empty) (ByteArray.mk #[(99 : UInt8)]) nb).2.1 :: (rawR u 10 (SV.tuple [SV.int IntKind.i64 (pSpawn pt (1 : Int) (List.getD [ByteArray.mk #[(97 : UInt8)], ByteArray.mk #[(98 : UInt8)], ByteArray.mk #[(99 : UInt8)]] (Int.toNat (Int.tmod (IntKind.wrap IntKind.u8 (Int.tdiv (List.getD bs (Int.toNat (↑i : Int)) (0 : Int)) (8 : Int))) (3 : Int))) ByteArray.empty) (ByteArray.mk #[(99 : UInt8)]) nb).2.1, SV.int IntKind.i64 (gPut gr (pSpawn pt (1 : Int) (List.getD [ByteArray.mk #[(97 : UInt8)], ByteArray.mk #[(98 : UInt8)], ByteArray.mk #[(99 : UInt8)]] (Int.toNat (Int.tmod (IntKind.wrap IntKind.u8 (Int.tdiv (List.getD bs (Int.toNat (↑i : Int)) (0 : Int)) (8 : Int))) (3 : Int))) ByteArray.empty) (ByteArray.mk #[(99 : UInt8)]) nb).2.1 (List.getD [ByteArray.mk #[(97 : UInt8)], ByteArray.mk #[(98 : UInt8)], ByteArray.mk #[(99 : UInt8)]] (Int.toNat (Int.tmod (IntKind.wrap IntKind.u8 (Int.tdiv (List.getD bs (Int.toNat (↑i : Int)) (0 : Int)) (8 : Int))) (3 : Int))) ByteArray.empty) ao_1 cap_1).2] :: (SV.ptr 4 bk 0 :: (SV.vec 0 ao (List.length bs) cap :: (SV.int IntKind.i64 (↑i : Int) :: (SV.eptr 0 (Addr.blkD ao) (Addr.offD ao) 1 (Int.toNat (↑i : Int)) 0 :: (SV.int IntKind.u8 (List.getD bs (Int.toNat (↑i : Int)) (0 : Int)) :: (SV.int IntKind.u8 (IntKind.wrap IntKind.u8 (Int.tdiv (List.getD bs (Int.toNat (↑i : Int)) (0 : Int)) (8 : Int))) :: (SV.int IntKind.u8 (Int.tmod (IntKind.wrap IntKind.u8 (Int.tdiv (List.getD bs (Int.toNat (↑i : Int)) (0 : Int)) (8 : Int))) (3 : Int)) :: (SV.eptr 1 bn 0 1 (Int.toNat (Int.tmod (IntKind.wrap IntKind.u8 (Int.tdiv (List.getD bs (Int.toNat (↑i : Int)) (0 : Int)) (8 : Int))) (3 : Int))) 0 :: (SV.str (List.getD [ByteArray.mk #[(97 : UInt8)], ByteArray.mk #[(98 : UInt8)], ByteArray.mk #[(99 : UInt8)]] (Int.toNat (Int.tmod (IntKind.wrap IntKind.u8 (Int.tdiv (List.getD bs (Int.toNat (↑i : Int)) (0 : Int)) (8 : Int))) (3 : Int))) ByteArray.empty) :: (SV.tuple [SV.int IntKind.i64 (pSpawn pt (1 : Int) (List.getD [ByteArray.mk #[(97 : UInt8)], ByteArray.mk #[(98 : UInt8)], ByteArray.mk #[(99 : UInt8)]] (Int.toNat (Int.tmod (IntKind.wrap IntKind.u8 (Int.tdiv (List.getD bs (Int.toNat (↑i : Int)) (0 : Int)) (8 : Int))) (3 : Int))) ByteArray.empty) (ByteArray.mk #[(99 : UInt8)]) nb).2.1, SV.int IntKind.i64 (gPut gr (pSpawn pt (1 : Int) (List.getD [ByteArray.mk #[(97 : UInt8)], ByteArray.mk #[(98 : UInt8)], ByteArray.mk #[(99 : UInt8)]] (Int.toNat (Int.tmod (IntKind.wrap IntKind.u8 (Int.tdiv (List.getD bs (Int.toNat (↑i : Int)) (0 : Int)) (8 : Int))) (3 : Int))) ByteArray.empty) (ByteArray.mk #[(99 : UInt8)]) nb).2.1 (List.getD [ByteArray.mk #[(97 : UInt8)], ByteArray.mk #[(98 : UInt8)], ByteArray.mk #[(99 : UInt8)]] (Int.toNat (Int.tmod (IntKind.wrap IntKind.u8 (Int.tdiv (List.getD bs (Int.toNat (↑i : Int)) (0 : Int)) (8 : Int))) (3 : Int))) ByteArray.empty) ao_1 cap_1).2] :: (SV.int IntKind.i64 (pSpawn pt (1 : Int) (List.getD [ByteArray.mk #[(97 : UInt8)], ByteArray.mk #[(98 : UInt8)], ByteArray.mk #[(99 : UInt8)]] (Int.toNat (Int.tmod (IntKind.wrap IntKind.u8 (Int.tdiv (List.getD bs (Int.toNat (↑i : Int)) (0 : Int)) (8 : Int))) (3 : Int))) ByteArray.empty) (ByteArray.mk #[(99 : UInt8)]) nb).2.1 :: (SV.int IntKind.i64 (gPut gr (pSpawn pt (1 : Int) (List.getD [ByteArray.mk #[(97 : UInt8)], ByteArray.mk #[(98 : UInt8)], ByteArray.mk #[(99 : UInt8)]] (Int.toNat (Int.tmod (IntKind.wrap IntKind.u8 (Int.tdiv (List.getD bs (Int.toNat (↑i : Int)) (0 : Int)) (8 : Int))) (3 : Int))) ByteArray.empty) (ByteArray.mk #[(99 : UInt8)]) nb).2.1 (List.getD [ByteArray.mk #[(97 : UInt8)], ByteArray.mk #[(98 : UInt8)], ByteArray.mk #[(99 : UInt8)]] (Int.toNat (Int.tmod (IntKind.wrap IntKind.u8 (Int.tdiv (List.getD bs (Int.toNat (↑i : Int)) (0 : Int)) (8 : Int))) (3 : Int))) ByteArray.empty) ao_1 cap_1).2 :: (rawR u 75 [] 89)))))))))))))) 52)))))))))))
                                 [Ent.mk (Loc.sl ao cap) (SObj.roL 1 encU8 bs (0 : Int)),
                                  Ent.mk (Loc.sl (some (Addr.mk bn 0 (@none Nat))) 3)
                                   (SObj.vecL (26 : TypeId) 1 encS [ByteArray.mk #[(97 : UInt8)], ByteArray.mk #[(98 : UInt8)], ByteArray.mk #[(99 : UInt8)]]
                                    ByteArray.empty),
                                  pkA bp ptE
                                   (pSpawn pt (1 : Int)
                                    (List.getD [ByteArray.mk #[(97 : UInt8)], ByteArray.mk #[(98 : UInt8)], ByteArray.mk #[(99 : UInt8)]]
                                     (Int.toNat
                                      (Int.tmod (IntKind.wrap IntKind.u8 (Int.tdiv (List.getD bs (Int.toNat (↑i : Int)) (0 : Int)) (8 : Int))) (3 : Int)))
                                     ByteArray.empty)
                                    (ByteArray.mk #[(99 : UInt8)]) nb).1,
                                  pkA bg grpE
                                   (gPut gr
                                    (pSpawn pt (1 : Int)
                                     (List.getD [ByteArray.mk #[(97 : UInt8)], ByteArray.mk #[(98 : UInt8)], ByteArray.mk #[(99 : UInt8)]]
                                      (Int.toNat
                                       (Int.tmod (IntKind.wrap IntKind.u8 (Int.tdiv (List.getD bs (Int.toNat (↑i : Int)) (0 : Int)) (8 : Int))) (3 : Int)))
                                      ByteArray.empty)
                                     (ByteArray.mk #[(99 : UInt8)]) nb).2.1
                                    (List.getD [ByteArray.mk #[(97 : UInt8)], ByteArray.mk #[(98 : UInt8)], ByteArray.mk #[(99 : UInt8)]]
                                     (Int.toNat
                                      (Int.tmod (IntKind.wrap IntKind.u8 (Int.tdiv (List.getD bs (Int.toNat (↑i : Int)) (0 : Int)) (8 : Int))) (3 : Int)))
                                     ByteArray.empty)
                                    ao_1 cap_1).1,
                                  Ent.mk (Loc.blk bk)
                                   (SObj.cells
                                    [SV.ptr 2 bp 0, SV.ptr 3 bg 0, SV.raw v2, SV.raw v3, SV.int IntKind.i64 m, SV.int IntKind.i64 w]
                                    (96 : TypeId))])
                       | false =>
                        K (frmR [J0] (bodyOf Tryz.f3) 32)
                         (Sy.mk (SV.vec 0 ao (List.length bs) cap :: (SV.raw (u 1) :: (SV.raw (u 2) :: (SV.ptr 4 bk 0 :: (SV.ptr 1 bn 0 :: (SV.raw (u 5) :: (SV.int IntKind.i64 last :: (SV.int IntKind.i64 (↑i : Int) :: (SV.raw (u 8) :: (SV.int IntKind.i64 (pSpawn pt (1 : Int) (List.getD [ByteArray.mk #[(97 : UInt8)], ByteArray.mk #[(98 : UInt8)], ByteArray.mk #[(99 : UInt8)]] (Int.toNat (Int.tmod (IntKind.wrap IntKind.u8 (Int.tdiv (List.getD bs (Int.toNat (↑i : Int)) (0 : Int)) (8 : Int))) (3 : Int))) ByteArray.empty) (ByteArray.mk #[(99 : UInt8)]) nb).2.1 :: (rawR u 10 (SV.tuple [SV.int IntKind.i64 (pSpawn pt (1 : Int) (List.getD [ByteArray.mk #[(97 : UInt8)], ByteArray.mk #[(98 : UInt8)], ByteArray.mk #[(99 : UInt8)]] (Int.toNat (Int.tmod (IntKind.wrap IntKind.u8 (Int.tdiv (List.getD bs (Int.toNat (↑i : Int)) (0 : Int)) (8 : Int))) (3 : Int))) ByteArray.empty) (ByteArray.mk #[(99 : UInt8)]) nb).2.1, SV.int IntKind.i64 (pSpawn pt (1 : Int) (List.getD [ByteArray.mk #[(97 : UInt8)], ByteArray.mk #[(98 : UInt8)], ByteArray.mk #[(99 : UInt8)]] (Int.toNat (Int.tmod (IntKind.wrap IntKind.u8 (Int.tdiv (List.getD bs (Int.toNat (↑i : Int)) (0 : Int)) (8 : Int))) (3 : Int))) ByteArray.empty) (ByteArray.mk #[(99 : UInt8)]) nb).2.2] :: (SV.ptr 4 bk 0 :: (SV.vec 0 ao (List.length bs) cap :: (SV.int IntKind.i64 (↑i : Int) :: (SV.eptr 0 (Addr.blkD ao) (Addr.offD ao) 1 (Int.toNat (↑i : Int)) 0 :: (SV.int IntKind.u8 (List.getD bs (Int.toNat (↑i : Int)) (0 : Int)) :: (SV.int IntKind.u8 (IntKind.wrap IntKind.u8 (Int.tdiv (List.getD bs (Int.toNat (↑i : Int)) (0 : Int)) (8 : Int))) :: (SV.int IntKind.u8 (Int.tmod (IntKind.wrap IntKind.u8 (Int.tdiv (List.getD bs (Int.toNat (↑i : Int)) (0 : Int)) (8 : Int))) (3 : Int)) :: (SV.eptr 1 bn 0 1 (Int.toNat (Int.tmod (IntKind.wrap IntKind.u8 (Int.tdiv (List.getD bs (Int.toNat (↑i : Int)) (0 : Int)) (8 : Int))) (3 : Int))) 0 :: (SV.str (List.getD [ByteArray.mk #[(97 : UInt8)], ByteArray.mk #[(98 : UInt8)], ByteArray.mk #[(99 : UInt8)]] (Int.toNat (Int.tmod (IntKind.wrap IntKind.u8 (Int.tdiv (List.getD bs (Int.toNat (↑i : Int)) (0 : Int)) (8 : Int))) (3 : Int))) ByteArray.empty) :: (SV.tuple [SV.int IntKind.i64 (pSpawn pt (1 : Int) (List.getD [ByteArray.mk #[(97 : UInt8)], ByteArray.mk #[(98 : UInt8)], ByteArray.mk #[(99 : UInt8)]] (Int.toNat (Int.tmod (IntKind.wrap IntKind.u8 (Int.tdiv (List.getD bs (Int.toNat (↑i : Int)) (0 : Int)) (8 : Int))) (3 : Int))) ByteArray.empty) (ByteArray.mk #[(99 : UInt8)]) nb).2.1, SV.int IntKind.i64 (pSpawn pt (1 : Int) (List.getD [ByteArray.mk #[(97 : UInt8)], ByteArray.mk #[(98 : UInt8)], ByteArray.mk #[(99 : UInt8)]] (Int.toNat (Int.tmod (IntKind.wrap IntKind.u8 (Int.tdiv (List.getD bs (Int.toNat (↑i : Int)) (0 : Int)) (8 : Int))) (3 : Int))) ByteArray.empty) (ByteArray.mk #[(99 : UInt8)]) nb).2.2] :: (SV.int IntKind.i64 (pSpawn pt (1 : Int) (List.getD [ByteArray.mk #[(97 : UInt8)], ByteArray.mk #[(98 : UInt8)], ByteArray.mk #[(99 : UInt8)]] (Int.toNat (Int.tmod (IntKind.wrap IntKind.u8 (Int.tdiv (List.getD bs (Int.toNat (↑i : Int)) (0 : Int)) (8 : Int))) (3 : Int))) ByteArray.empty) (ByteArray.mk #[(99 : UInt8)]) nb).2.1 :: (SV.int IntKind.i64 (pSpawn pt (1 : Int) (List.getD [ByteArray.mk #[(97 : UInt8)], ByteArray.mk #[(98 : UInt8)], ByteArray.mk #[(99 : UInt8)]] (Int.toNat (Int.tmod (IntKind.wrap IntKind.u8 (Int.tdiv (List.getD bs (Int.toNat (↑i : Int)) (0 : Int)) (8 : Int))) (3 : Int))) ByteArray.empty) (ByteArray.mk #[(99 : UInt8)]) nb).2.2 :: (rawR u 75 [] 89)))))))))))))) 52)))))))))))
                          [Ent.mk (Loc.sl ao cap) (SObj.roL 1 encU8 bs (0 : Int)),
                           Ent.mk (Loc.sl (some (Addr.mk bn 0 (@none Nat))) 3)
                            (SObj.vecL (26 : TypeId) 1 encS [ByteArray.mk #[(97 : UInt8)], ByteArray.mk #[(98 : UInt8)], ByteArray.mk #[(99 : UInt8)]]
                             ByteArray.empty),
                           pkA bp ptE
                            (pSpawn pt (1 : Int)
                             (List.getD [ByteArray.mk #[(97 : UInt8)], ByteArray.mk #[(98 : UInt8)], ByteArray.mk #[(99 : UInt8)]]
                              (Int.toNat (Int.tmod (IntKind.wrap IntKind.u8 (Int.tdiv (List.getD bs (Int.toNat (↑i : Int)) (0 : Int)) (8 : Int))) (3 : Int)))
                              ByteArray.empty)
                             (ByteArray.mk #[(99 : UInt8)]) nb).1,
                           pkA bg grpE gr,
                           Ent.mk (Loc.blk bk)
                            (SObj.cells [SV.ptr 2 bp 0, SV.ptr 3 bg 0, SV.raw v2, SV.raw v3, SV.int IntKind.i64 m, SV.int IntKind.i64 w]
                             (96 : TypeId))])
                      | false =>
                       K (frmR [J0] (bodyOf Tryz.f3) 32)
                        (Sy.mk (SV.vec 0 ao (List.length bs) cap :: (SV.raw (u 1) :: (SV.raw (u 2) :: (SV.ptr 4 bk 0 :: (SV.ptr 1 bn 0 :: (SV.raw (u 5) :: (SV.int IntKind.i64 last :: (SV.int IntKind.i64 (↑i : Int) :: (SV.raw (u 8) :: (SV.int IntKind.i64 (pSpawn pt (1 : Int) (List.getD [ByteArray.mk #[(97 : UInt8)], ByteArray.mk #[(98 : UInt8)], ByteArray.mk #[(99 : UInt8)]] (Int.toNat (Int.tmod (IntKind.wrap IntKind.u8 (Int.tdiv (List.getD bs (Int.toNat (↑i : Int)) (0 : Int)) (8 : Int))) (3 : Int))) ByteArray.empty) (ByteArray.mk #[(99 : UInt8)]) nb).2.1 :: (rawR u 10 (SV.tuple [SV.int IntKind.i64 (pSpawn pt (1 : Int) (List.getD [ByteArray.mk #[(97 : UInt8)], ByteArray.mk #[(98 : UInt8)], ByteArray.mk #[(99 : UInt8)]] (Int.toNat (Int.tmod (IntKind.wrap IntKind.u8 (Int.tdiv (List.getD bs (Int.toNat (↑i : Int)) (0 : Int)) (8 : Int))) (3 : Int))) ByteArray.empty) (ByteArray.mk #[(99 : UInt8)]) nb).2.1, SV.int IntKind.i64 (pSpawn pt (1 : Int) (List.getD [ByteArray.mk #[(97 : UInt8)], ByteArray.mk #[(98 : UInt8)], ByteArray.mk #[(99 : UInt8)]] (Int.toNat (Int.tmod (IntKind.wrap IntKind.u8 (Int.tdiv (List.getD bs (Int.toNat (↑i : Int)) (0 : Int)) (8 : Int))) (3 : Int))) ByteArray.empty) (ByteArray.mk #[(99 : UInt8)]) nb).2.2] :: (SV.ptr 4 bk 0 :: (SV.vec 0 ao (List.length bs) cap :: (SV.int IntKind.i64 (↑i : Int) :: (SV.eptr 0 (Addr.blkD ao) (Addr.offD ao) 1 (Int.toNat (↑i : Int)) 0 :: (SV.int IntKind.u8 (List.getD bs (Int.toNat (↑i : Int)) (0 : Int)) :: (SV.int IntKind.u8 (IntKind.wrap IntKind.u8 (Int.tdiv (List.getD bs (Int.toNat (↑i : Int)) (0 : Int)) (8 : Int))) :: (SV.int IntKind.u8 (Int.tmod (IntKind.wrap IntKind.u8 (Int.tdiv (List.getD bs (Int.toNat (↑i : Int)) (0 : Int)) (8 : Int))) (3 : Int)) :: (SV.eptr 1 bn 0 1 (Int.toNat (Int.tmod (IntKind.wrap IntKind.u8 (Int.tdiv (List.getD bs (Int.toNat (↑i : Int)) (0 : Int)) (8 : Int))) (3 : Int))) 0 :: (SV.str (List.getD [ByteArray.mk #[(97 : UInt8)], ByteArray.mk #[(98 : UInt8)], ByteArray.mk #[(99 : UInt8)]] (Int.toNat (Int.tmod (IntKind.wrap IntKind.u8 (Int.tdiv (List.getD bs (Int.toNat (↑i : Int)) (0 : Int)) (8 : Int))) (3 : Int))) ByteArray.empty) :: (SV.tuple [SV.int IntKind.i64 (pSpawn pt (1 : Int) (List.getD [ByteArray.mk #[(97 : UInt8)], ByteArray.mk #[(98 : UInt8)], ByteArray.mk #[(99 : UInt8)]] (Int.toNat (Int.tmod (IntKind.wrap IntKind.u8 (Int.tdiv (List.getD bs (Int.toNat (↑i : Int)) (0 : Int)) (8 : Int))) (3 : Int))) ByteArray.empty) (ByteArray.mk #[(99 : UInt8)]) nb).2.1, SV.int IntKind.i64 (pSpawn pt (1 : Int) (List.getD [ByteArray.mk #[(97 : UInt8)], ByteArray.mk #[(98 : UInt8)], ByteArray.mk #[(99 : UInt8)]] (Int.toNat (Int.tmod (IntKind.wrap IntKind.u8 (Int.tdiv (List.getD bs (Int.toNat (↑i : Int)) (0 : Int)) (8 : Int))) (3 : Int))) ByteArray.empty) (ByteArray.mk #[(99 : UInt8)]) nb).2.2] :: (SV.int IntKind.i64 (pSpawn pt (1 : Int) (List.getD [ByteArray.mk #[(97 : UInt8)], ByteArray.mk #[(98 : UInt8)], ByteArray.mk #[(99 : UInt8)]] (Int.toNat (Int.tmod (IntKind.wrap IntKind.u8 (Int.tdiv (List.getD bs (Int.toNat (↑i : Int)) (0 : Int)) (8 : Int))) (3 : Int))) ByteArray.empty) (ByteArray.mk #[(99 : UInt8)]) nb).2.1 :: (SV.int IntKind.i64 (pSpawn pt (1 : Int) (List.getD [ByteArray.mk #[(97 : UInt8)], ByteArray.mk #[(98 : UInt8)], ByteArray.mk #[(99 : UInt8)]] (Int.toNat (Int.tmod (IntKind.wrap IntKind.u8 (Int.tdiv (List.getD bs (Int.toNat (↑i : Int)) (0 : Int)) (8 : Int))) (3 : Int))) ByteArray.empty) (ByteArray.mk #[(99 : UInt8)]) nb).2.2 :: (rawR u 75 [] 89)))))))))))))) 52)))))))))))
                         [Ent.mk (Loc.sl ao cap) (SObj.roL 1 encU8 bs (0 : Int)),
                          Ent.mk (Loc.sl (some (Addr.mk bn 0 (@none Nat))) 3)
                           (SObj.vecL (26 : TypeId) 1 encS [ByteArray.mk #[(97 : UInt8)], ByteArray.mk #[(98 : UInt8)], ByteArray.mk #[(99 : UInt8)]]
                            ByteArray.empty),
                          pkA bp ptE
                           (pSpawn pt (1 : Int)
                            (List.getD [ByteArray.mk #[(97 : UInt8)], ByteArray.mk #[(98 : UInt8)], ByteArray.mk #[(99 : UInt8)]]
                             (Int.toNat (Int.tmod (IntKind.wrap IntKind.u8 (Int.tdiv (List.getD bs (Int.toNat (↑i : Int)) (0 : Int)) (8 : Int))) (3 : Int)))
                             ByteArray.empty)
                            (ByteArray.mk #[(99 : UInt8)]) nb).1,
                          pkA bg grpE gr,
                          Ent.mk (Loc.blk bk)
                           (SObj.cells [SV.ptr 2 bp 0, SV.ptr 3 bg 0, SV.raw v2, SV.raw v3, SV.int IntKind.i64 m, SV.int IntKind.i64 w]
                            (96 : TypeId))])) := by kernel_rfl


theorem kh_29 (K : List Frm → Sy → Prop) (N : List Ent → SV → Prop) (J0 : Act → World → Prop) (ao : Option Addr) (cap : Nat) (bs : List Int) (bn bk bp bg : Nat) (pt : PT) (gr : Grp) (v2 v3 : Value) (m w : Int) (last : Int) (i : Nat) (u : Nat → Value) : (run Tryz.prog khT false [32] K (retP Tryz.prog Tryz.f3.results.toList N) 1500 (frmR [J0] (bodyOf Tryz.f3) 29) ⟨mkT u 164 0 [(0, .vec 0 ao bs.length cap), (3, .ptr 4 bk 0), (4, .ptr 1 bn 0), (6, .int .i64 last), (7, .int .i64 (i : Int)), (9, .int .i64 0)], [⟨.sl ao cap, .roL 1 encU8 bs 0⟩, ⟨.sl (some ⟨bn, 0, none⟩) 3, .vecL 26 1 encS names3 ByteArray.empty⟩, pkA bp ptE (pt), pkA bg grpE (gr), ⟨.blk bk, .cells [.ptr 2 bp 0, .ptr 3 bg 0, .raw v2, .raw v3, .int .i64 m, .int .i64 w] 96⟩]⟩) = (
(ao = ao ∧ cap = cap ∧ List.length bs = List.length bs ∧ (0 : Int) ≤ (↑i : Int) ∧ (↑i : Int) < (↑(List.length bs) : Int)) ∧
 (Addr.blkD ao = Addr.blkD ao ∧ Addr.offD ao = Addr.offD ao ∧ 1 = 1 ∧ Int.toNat (↑i : Int) < List.length bs) ∧
  (8 : Int) ≠ (0 : Int) ∧
   (3 : Int) ≠ (0 : Int) ∧
    (some (Addr.mk bn 0 (@none Nat)) = some (Addr.mk bn 0 (@none Nat)) ∧
     0 = 0 ∧
      3 = 3 ∧
       (0 : Int) ≤ Int.tmod (IntKind.wrap IntKind.u8 (Int.tdiv (List.getD bs (Int.toNat (↑i : Int)) (0 : Int)) (8 : Int))) (3 : Int) ∧
        Int.tmod (IntKind.wrap IntKind.u8 (Int.tdiv (List.getD bs (Int.toNat (↑i : Int)) (0 : Int)) (8 : Int))) (3 : Int) < (↑3 : Int)) ∧
     (bn = Addr.blkD (some (Addr.mk bn 0 (@none Nat))) ∧
      0 = Addr.offD (some (Addr.mk bn 0 (@none Nat))) ∧
       1 = 1 ∧ Int.toNat (Int.tmod (IntKind.wrap IntKind.u8 (Int.tdiv (List.getD bs (Int.toNat (↑i : Int)) (0 : Int)) (8 : Int))) (3 : Int)) < 3) ∧
      true = true ∧
       (bk = bk ∧ (96 : TypeId) = (96 : TypeId) ∧ true = true) ∧
        (bp = bp ∧ bg = bg) ∧
         ∃ (h1 : PT = PT),
          ∃ (h2 : Grp = Grp),
           AdtIs (fun (s : PT) (b : Nat) ↦ packs (ptE s b)) ptE ∧
            AdtIs (fun (s : Grp) (b : Nat) ↦ packs (grpE s b)) grpE ∧
             (pOk (cast h1 pt) ∧ gsOk (cast h2 gr)) ∧
              K (frmR [J0] (bodyOf Tryz.f3) 32)
               (Sy.mk (SV.vec 0 ao (List.length bs) cap :: (SV.raw (u 1) :: (SV.raw (u 2) :: (SV.ptr 4 bk 0 :: (SV.ptr 1 bn 0 :: (SV.raw (u 5) :: (SV.int IntKind.i64 last :: (SV.int IntKind.i64 (↑i : Int) :: (SV.raw (u 8) :: (SV.int IntKind.i64 (0 : Int) :: (rawR u 10 (SV.ptr 4 bk 0 :: (SV.vec 0 ao (List.length bs) cap :: (SV.int IntKind.i64 (↑i : Int) :: (SV.eptr 0 (Addr.blkD ao) (Addr.offD ao) 1 (Int.toNat (↑i : Int)) 0 :: (SV.int IntKind.u8 (List.getD bs (Int.toNat (↑i : Int)) (0 : Int)) :: (SV.int IntKind.u8 (IntKind.wrap IntKind.u8 (Int.tdiv (List.getD bs (Int.toNat (↑i : Int)) (0 : Int)) (8 : Int))) :: (SV.int IntKind.u8 (Int.tmod (IntKind.wrap IntKind.u8 (Int.tdiv (List.getD bs (Int.toNat (↑i : Int)) (0 : Int)) (8 : Int))) (3 : Int)) :: (SV.eptr 1 bn 0 1 (Int.toNat (Int.tmod (IntKind.wrap IntKind.u8 (Int.tdiv (List.getD bs (Int.toNat (↑i : Int)) (0 : Int)) (8 : Int))) (3 : Int))) 0 :: (SV.str (List.getD [ByteArray.mk #[(97 : UInt8)], ByteArray.mk #[(98 : UInt8)], ByteArray.mk #[(99 : UInt8)]] (Int.toNat (Int.tmod (IntKind.wrap IntKind.u8 (Int.tdiv (List.getD bs (Int.toNat (↑i : Int)) (0 : Int)) (8 : Int))) (3 : Int))) ByteArray.empty) :: (SV.int IntKind.i64 (kgAll pt (9 : Int) (memQ gr (List.getD [ByteArray.mk #[(97 : UInt8)], ByteArray.mk #[(98 : UInt8)], ByteArray.mk #[(99 : UInt8)]] (Int.toNat (Int.tmod (IntKind.wrap IntKind.u8 (Int.tdiv (List.getD bs (Int.toNat (↑i : Int)) (0 : Int)) (8 : Int))) (3 : Int))) ByteArray.empty))).2 :: (rawR u 101 [] 63))))))))))) 81)))))))))))
                [Ent.mk (Loc.sl ao cap) (SObj.roL 1 encU8 bs (0 : Int)),
                 Ent.mk (Loc.sl (some (Addr.mk bn 0 (@none Nat))) 3)
                  (SObj.vecL (26 : TypeId) 1 encS [ByteArray.mk #[(97 : UInt8)], ByteArray.mk #[(98 : UInt8)], ByteArray.mk #[(99 : UInt8)]] ByteArray.empty),
                 pkA bp ptE
                  (kgAll pt (9 : Int)
                   (memQ gr
                    (List.getD [ByteArray.mk #[(97 : UInt8)], ByteArray.mk #[(98 : UInt8)], ByteArray.mk #[(99 : UInt8)]]
                     (Int.toNat (Int.tmod (IntKind.wrap IntKind.u8 (Int.tdiv (List.getD bs (Int.toNat (↑i : Int)) (0 : Int)) (8 : Int))) (3 : Int))) ByteArray.empty))).1,
                 pkA bg grpE gr,
                 Ent.mk (Loc.blk bk)
                  (SObj.cells [SV.ptr 2 bp 0, SV.ptr 3 bg 0, SV.raw v2, SV.raw v3, SV.int IntKind.i64 m, SV.int IntKind.i64 w] (96 : TypeId))])) := by kernel_rfl


theorem kh_25 (K : List Frm → Sy → Prop) (N : List Ent → SV → Prop) (J0 : Act → World → Prop) (ao : Option Addr) (cap : Nat) (bs : List Int) (bn bk bp bg : Nat) (pt : PT) (gr : Grp) (v2 v3 : Value) (m w : Int) (last : Int) (i : Nat) (x : Int) (u : Nat → Value) : (run Tryz.prog khT false [32] K (retP Tryz.prog Tryz.f3.results.toList N) 1500 (frmR [J0] (bodyOf Tryz.f3) 25) ⟨mkT u 164 0 [(0, .vec 0 ao bs.length cap), (3, .ptr 4 bk 0), (4, .ptr 1 bn 0), (6, .int .i64 last), (7, .int .i64 (i : Int)), (8, .int .i64 x), (9, .int .i64 0)], [⟨.sl ao cap, .roL 1 encU8 bs 0⟩, ⟨.sl (some ⟨bn, 0, none⟩) 3, .vecL 26 1 encS names3 ByteArray.empty⟩, pkA bp ptE (pt), pkA bg grpE (gr), ⟨.blk bk, .cells [.ptr 2 bp 0, .ptr 3 bg 0, .raw v2, .raw v3, .int .i64 m, .int .i64 w] 96⟩]⟩) = (
true = true ∧
 bk = bk ∧
  true = true ∧
   bg = bg ∧
    ∃ (h : Grp = Grp),
     AdtIs (fun (s : Grp) (b : Nat) ↦ packs (grpE s b)) grpE ∧
      bk = bk ∧
       true = true ∧
        bp = bp ∧
         ∃ (h : PT = PT),
          AdtIs (fun (s : PT) (b : Nat) ↦ packs (ptE s b)) ptE ∧
           pOk pt ∧
            ∀ (nb : Nat),
             true = true ∧
              match (pFork pt x nb).2.2 == (0 : Int) with
              | true =>
               match
                !sEq
                 (match mget gr.6 (Key.i IntKind.i64 x) with
                 | some x => x
                 | none => ByteArray.mk #[])
                 (ByteArray.mk #[]) with
               | true =>
                bk = bk ∧
                 true = true ∧
                  bg = bg ∧
                   ∃ (h : Grp = Grp),
                    AdtIs (fun (s : Grp) (b : Nat) ↦ packs (grpE s b)) grpE ∧
                     (gOk gr (pFork pt x nb).2.1 ∧ keysOk gr.gs) ∧
                      ∀ (ao_1 : Option Addr) (cap_1 : Nat),
                       K (frmR [J0] (bodyOf Tryz.f3) 32)
                        (Sy.mk (SV.vec 0 ao (List.length bs) cap :: (SV.raw (u 1) :: (SV.raw (u 2) :: (SV.ptr 4 bk 0 :: (SV.ptr 1 bn 0 :: (SV.raw (u 5) :: (SV.int IntKind.i64 last :: (SV.int IntKind.i64 (↑i : Int) :: (SV.int IntKind.i64 x :: (SV.int IntKind.i64 (pFork pt x nb).2.1 :: (rawR u 10 ((SV.tuple [SV.int IntKind.i64 (pFork pt x nb).2.1, SV.int IntKind.i64 (gPut gr (pFork pt x nb).2.1 (match mget gr.6 (Key.i IntKind.i64 x) with | some x => x | none => ByteArray.mk #[]) ao_1 cap_1).2]) :: (SV.ptr 4 bk 0 :: (SV.int IntKind.i64 x :: ((SV.tuple [SV.int IntKind.i64 (pFork pt x nb).2.1, SV.int IntKind.i64 (gPut gr (pFork pt x nb).2.1 (match mget gr.6 (Key.i IntKind.i64 x) with | some x => x | none => ByteArray.mk #[]) ao_1 cap_1).2]) :: (SV.int IntKind.i64 (pFork pt x nb).2.1 :: ((SV.int IntKind.i64 (gPut gr (pFork pt x nb).2.1 (match mget gr.6 (Key.i IntKind.i64 x) with | some x => x | none => ByteArray.mk #[]) ao_1 cap_1).2) :: (rawR u 84 [] 80))))))) 68)))))))))))
                         [Ent.mk (Loc.sl ao cap) (SObj.roL 1 encU8 bs (0 : Int)),
                          Ent.mk (Loc.sl (some (Addr.mk bn 0 (@none Nat))) 3)
                           (SObj.vecL (26 : TypeId) 1 encS [ByteArray.mk #[(97 : UInt8)], ByteArray.mk #[(98 : UInt8)], ByteArray.mk #[(99 : UInt8)]]
                            ByteArray.empty),
                          pkA bp ptE (pFork pt x nb).1,
                          pkA bg grpE
                           (gPut gr (pFork pt x nb).2.1
                            (match mget gr.6 (Key.i IntKind.i64 x) with
                            | some x => x
                            | none => ByteArray.mk #[])
                            ao_1 cap_1).1,
                          Ent.mk (Loc.blk bk)
                           (SObj.cells [SV.ptr 2 bp 0, SV.ptr 3 bg 0, SV.raw v2, SV.raw v3, SV.int IntKind.i64 m, SV.int IntKind.i64 w]
                            (96 : TypeId))])
               | false =>
                K (frmR [J0] (bodyOf Tryz.f3) 32)
                 (Sy.mk (SV.vec 0 ao (List.length bs) cap :: (SV.raw (u 1) :: (SV.raw (u 2) :: (SV.ptr 4 bk 0 :: (SV.ptr 1 bn 0 :: (SV.raw (u 5) :: (SV.int IntKind.i64 last :: (SV.int IntKind.i64 (↑i : Int) :: (SV.int IntKind.i64 x :: (SV.int IntKind.i64 (pFork pt x nb).2.1 :: (rawR u 10 (SV.tuple [SV.int IntKind.i64 (pFork pt x nb).2.1, SV.int IntKind.i64 (pFork pt x nb).2.2] :: (SV.ptr 4 bk 0 :: (SV.int IntKind.i64 x :: (SV.tuple [SV.int IntKind.i64 (pFork pt x nb).2.1, SV.int IntKind.i64 (pFork pt x nb).2.2] :: (SV.int IntKind.i64 (pFork pt x nb).2.1 :: (SV.int IntKind.i64 (pFork pt x nb).2.2 :: (rawR u 84 [] 80))))))) 68)))))))))))
                  [Ent.mk (Loc.sl ao cap) (SObj.roL 1 encU8 bs (0 : Int)),
                   Ent.mk (Loc.sl (some (Addr.mk bn 0 (@none Nat))) 3)
                    (SObj.vecL (26 : TypeId) 1 encS [ByteArray.mk #[(97 : UInt8)], ByteArray.mk #[(98 : UInt8)], ByteArray.mk #[(99 : UInt8)]] ByteArray.empty),
                   pkA bp ptE (pFork pt x nb).1, pkA bg grpE gr,
                   Ent.mk (Loc.blk bk)
                    (SObj.cells [SV.ptr 2 bp 0, SV.ptr 3 bg 0, SV.raw v2, SV.raw v3, SV.int IntKind.i64 m, SV.int IntKind.i64 w] (96 : TypeId))])
              | false =>
               K (frmR [J0] (bodyOf Tryz.f3) 32)
                (Sy.mk (SV.vec 0 ao (List.length bs) cap :: (SV.raw (u 1) :: (SV.raw (u 2) :: (SV.ptr 4 bk 0 :: (SV.ptr 1 bn 0 :: (SV.raw (u 5) :: (SV.int IntKind.i64 last :: (SV.int IntKind.i64 (↑i : Int) :: (SV.int IntKind.i64 x :: (SV.int IntKind.i64 (pFork pt x nb).2.1 :: (rawR u 10 (SV.tuple [SV.int IntKind.i64 (pFork pt x nb).2.1, SV.int IntKind.i64 (pFork pt x nb).2.2] :: (SV.ptr 4 bk 0 :: (SV.int IntKind.i64 x :: (SV.tuple [SV.int IntKind.i64 (pFork pt x nb).2.1, SV.int IntKind.i64 (pFork pt x nb).2.2] :: (SV.int IntKind.i64 (pFork pt x nb).2.1 :: (SV.int IntKind.i64 (pFork pt x nb).2.2 :: (rawR u 84 [] 80))))))) 68)))))))))))
                 [Ent.mk (Loc.sl ao cap) (SObj.roL 1 encU8 bs (0 : Int)),
                  Ent.mk (Loc.sl (some (Addr.mk bn 0 (@none Nat))) 3)
                   (SObj.vecL (26 : TypeId) 1 encS [ByteArray.mk #[(97 : UInt8)], ByteArray.mk #[(98 : UInt8)], ByteArray.mk #[(99 : UInt8)]] ByteArray.empty),
                  pkA bp ptE (pFork pt x nb).1, pkA bg grpE gr,
                  Ent.mk (Loc.blk bk)
                   (SObj.cells [SV.ptr 2 bp 0, SV.ptr 3 bg 0, SV.raw v2, SV.raw v3, SV.int IntKind.i64 m, SV.int IntKind.i64 w] (96 : TypeId))])) := by kernel_rfl


theorem kh_27 (K : List Frm → Sy → Prop) (N : List Ent → SV → Prop) (J0 : Act → World → Prop) (ao : Option Addr) (cap : Nat) (bs : List Int) (bn bk bp bg : Nat) (pt : PT) (gr : Grp) (v2 v3 : Value) (m w : Int) (last : Int) (i : Nat) (x : Int) (u : Nat → Value) : (run Tryz.prog khT false [32] K (retP Tryz.prog Tryz.f3.results.toList N) 1500 (frmR [J0] (bodyOf Tryz.f3) 27) ⟨mkT u 164 0 [(0, .vec 0 ao bs.length cap), (3, .ptr 4 bk 0), (4, .ptr 1 bn 0), (6, .int .i64 last), (7, .int .i64 (i : Int)), (8, .int .i64 x), (9, .int .i64 0)], [⟨.sl ao cap, .roL 1 encU8 bs 0⟩, ⟨.sl (some ⟨bn, 0, none⟩) 3, .vecL 26 1 encS names3 ByteArray.empty⟩, pkA bp ptE (pt), pkA bg grpE (gr), ⟨.blk bk, .cells [.ptr 2 bp 0, .ptr 3 bg 0, .raw v2, .raw v3, .int .i64 m, .int .i64 w] 96⟩]⟩) = (
true = true ∧
 bk = bk ∧
  true = true ∧
   bp = bp ∧
    ∃ (h : PT = PT),
     AdtIs (fun (s : PT) (b : Nat) ↦ packs (ptE s b)) ptE ∧
      pOk pt ∧
       match (pExit pt x (0 : Int)).2 == (0 : Int) with
       | true =>
        bk = bk ∧
         true = true ∧
          bg = bg ∧
           ∃ (h : Grp = Grp),
            AdtIs (fun (s : Grp) (b : Nat) ↦ packs (grpE s b)) grpE ∧
             gOk gr x ∧
              ∀ (ao_1 : Option Addr) (cap_1 : Nat),
               K (frmR [J0] (bodyOf Tryz.f3) 32)
                (Sy.mk (SV.vec 0 ao (List.length bs) cap :: (SV.raw (u 1) :: (SV.raw (u 2) :: (SV.ptr 4 bk 0 :: (SV.ptr 1 bn 0 :: (SV.raw (u 5) :: (SV.int IntKind.i64 last :: (SV.int IntKind.i64 (↑i : Int) :: (SV.int IntKind.i64 x :: (SV.int IntKind.i64 (0 : Int) :: (rawR u 10 (SV.ptr 4 bk 0 :: (SV.int IntKind.i64 x :: (SV.int IntKind.i64 (pExit pt x (0 : Int)).2 :: (rawR u 89 [] 75)))) 76)))))))))))
                 [Ent.mk (Loc.sl ao cap) (SObj.roL 1 encU8 bs (0 : Int)),
                  Ent.mk (Loc.sl (some (Addr.mk bn 0 (@none Nat))) 3)
                   (SObj.vecL (26 : TypeId) 1 encS [ByteArray.mk #[(97 : UInt8)], ByteArray.mk #[(98 : UInt8)], ByteArray.mk #[(99 : UInt8)]] ByteArray.empty),
                  pkA bp ptE (pExit pt x (0 : Int)).1, pkA bg grpE (gGone gr x ao_1 cap_1).1,
                  Ent.mk (Loc.blk bk)
                   (SObj.cells [SV.ptr 2 bp 0, SV.ptr 3 bg 0, SV.raw v2, SV.raw v3, SV.int IntKind.i64 m, SV.int IntKind.i64 w] (96 : TypeId))])
       | false =>
        K (frmR [J0] (bodyOf Tryz.f3) 32)
         (Sy.mk (SV.vec 0 ao (List.length bs) cap :: (SV.raw (u 1) :: (SV.raw (u 2) :: (SV.ptr 4 bk 0 :: (SV.ptr 1 bn 0 :: (SV.raw (u 5) :: (SV.int IntKind.i64 last :: (SV.int IntKind.i64 (↑i : Int) :: (SV.int IntKind.i64 x :: (SV.int IntKind.i64 (0 : Int) :: (rawR u 10 (SV.ptr 4 bk 0 :: (SV.int IntKind.i64 x :: (SV.int IntKind.i64 (pExit pt x (0 : Int)).2 :: (rawR u 89 [] 75)))) 76)))))))))))
          [Ent.mk (Loc.sl ao cap) (SObj.roL 1 encU8 bs (0 : Int)),
           Ent.mk (Loc.sl (some (Addr.mk bn 0 (@none Nat))) 3)
            (SObj.vecL (26 : TypeId) 1 encS [ByteArray.mk #[(97 : UInt8)], ByteArray.mk #[(98 : UInt8)], ByteArray.mk #[(99 : UInt8)]] ByteArray.empty),
           pkA bp ptE (pExit pt x (0 : Int)).1, pkA bg grpE gr,
           Ent.mk (Loc.blk bk) (SObj.cells [SV.ptr 2 bp 0, SV.ptr 3 bg 0, SV.raw v2, SV.raw v3, SV.int IntKind.i64 m, SV.int IntKind.i64 w] (96 : TypeId))])) := by kernel_rfl


theorem kh_31 (K : List Frm → Sy → Prop) (N : List Ent → SV → Prop) (J0 : Act → World → Prop) (ao : Option Addr) (cap : Nat) (bs : List Int) (bn bk bp bg : Nat) (pt : PT) (gr : Grp) (v2 v3 : Value) (m w : Int) (last : Int) (i : Nat) (x : Int) (u : Nat → Value) : (run Tryz.prog khT false [32] K (retP Tryz.prog Tryz.f3.results.toList N) 1500 (frmR [J0] (bodyOf Tryz.f3) 31) ⟨mkT u 164 0 [(0, .vec 0 ao bs.length cap), (3, .ptr 4 bk 0), (4, .ptr 1 bn 0), (6, .int .i64 last), (7, .int .i64 (i : Int)), (8, .int .i64 x), (9, .int .i64 0)], [⟨.sl ao cap, .roL 1 encU8 bs 0⟩, ⟨.sl (some ⟨bn, 0, none⟩) 3, .vecL 26 1 encS names3 ByteArray.empty⟩, pkA bp ptE (pt), pkA bg grpE (gr), ⟨.blk bk, .cells [.ptr 2 bp 0, .ptr 3 bg 0, .raw v2, .raw v3, .int .i64 m, .int .i64 w] 96⟩]⟩) = (
true = true ∧
 bk = bk ∧
  true = true ∧
   bp = bp ∧
    ∃ (h : PT = PT),
     AdtIs (fun (s : PT) (b : Nat) ↦ packs (ptE s b)) ptE ∧
      pOk pt ∧
       match !(pGet pt x).8 with
       | true =>
        K (frmR [J0] (bodyOf Tryz.f3) 32)
         (Sy.mk (SV.vec 0 ao (List.length bs) cap :: (SV.raw (u 1) :: (SV.raw (u 2) :: (SV.ptr 4 bk 0 :: (SV.ptr 1 bn 0 :: (SV.raw (u 5) :: (SV.int IntKind.i64 last :: (SV.int IntKind.i64 (↑i : Int) :: (SV.int IntKind.i64 x :: (SV.int IntKind.i64 (0 : Int) :: (rawR u 10 (SV.ptr 4 bk 0 :: (SV.int IntKind.i64 x :: (SV.int IntKind.i64 (80 : Int) :: (rawR u 106 [] 58)))) 93)))))))))))
          [Ent.mk (Loc.sl ao cap) (SObj.roL 1 encU8 bs (0 : Int)),
           Ent.mk (Loc.sl (some (Addr.mk bn 0 (@none Nat))) 3)
            (SObj.vecL (26 : TypeId) 1 encS [ByteArray.mk #[(97 : UInt8)], ByteArray.mk #[(98 : UInt8)], ByteArray.mk #[(99 : UInt8)]] ByteArray.empty),
           pkA bp ptE pt, pkA bg grpE gr,
           Ent.mk (Loc.blk bk) (SObj.cells [SV.ptr 2 bp 0, SV.ptr 3 bg 0, SV.raw v2, SV.raw v3, SV.int IntKind.i64 m, SV.int IntKind.i64 w] (96 : TypeId))])
       | false =>
        true = true ∧
         bk = bk ∧
          true = true ∧
           bp = bp ∧
            ∃ (h : PT = PT),
             AdtIs (fun (s : PT) (b : Nat) ↦ packs (ptE s b)) ptE ∧
              pOk pt ∧
               match (pExit pt x (-9 : Int)).2 == (0 : Int) with
               | true =>
                bk = bk ∧
                 true = true ∧
                  bg = bg ∧
                   ∃ (h : Grp = Grp),
                    AdtIs (fun (s : Grp) (b : Nat) ↦ packs (grpE s b)) grpE ∧
                     gOk gr x ∧
                      ∀ (ao_1 : Option Addr) (cap_1 : Nat),
                       K (frmR [J0] (bodyOf Tryz.f3) 32)
                        (Sy.mk (SV.vec 0 ao (List.length bs) cap :: (SV.raw (u 1) :: (SV.raw (u 2) :: (SV.ptr 4 bk 0 :: (SV.ptr 1 bn 0 :: (SV.raw (u 5) :: (SV.int IntKind.i64 last :: (SV.int IntKind.i64 (↑i : Int) :: (SV.int IntKind.i64 x :: (SV.int IntKind.i64 (0 : Int) :: (rawR u 10 (SV.ptr 4 bk 0 :: (SV.int IntKind.i64 x :: (SV.int IntKind.i64 (pExit pt x (-9 : Int)).2 :: (rawR u 106 [] 58)))) 93)))))))))))
                         [Ent.mk (Loc.sl ao cap) (SObj.roL 1 encU8 bs (0 : Int)),
                          Ent.mk (Loc.sl (some (Addr.mk bn 0 (@none Nat))) 3)
                           (SObj.vecL (26 : TypeId) 1 encS [ByteArray.mk #[(97 : UInt8)], ByteArray.mk #[(98 : UInt8)], ByteArray.mk #[(99 : UInt8)]]
                            ByteArray.empty),
                          pkA bp ptE (pExit pt x (-9 : Int)).1, pkA bg grpE (gGone gr x ao_1 cap_1).1,
                          Ent.mk (Loc.blk bk)
                           (SObj.cells [SV.ptr 2 bp 0, SV.ptr 3 bg 0, SV.raw v2, SV.raw v3, SV.int IntKind.i64 m, SV.int IntKind.i64 w]
                            (96 : TypeId))])
               | false =>
                K (frmR [J0] (bodyOf Tryz.f3) 32)
                 (Sy.mk (SV.vec 0 ao (List.length bs) cap :: (SV.raw (u 1) :: (SV.raw (u 2) :: (SV.ptr 4 bk 0 :: (SV.ptr 1 bn 0 :: (SV.raw (u 5) :: (SV.int IntKind.i64 last :: (SV.int IntKind.i64 (↑i : Int) :: (SV.int IntKind.i64 x :: (SV.int IntKind.i64 (0 : Int) :: (rawR u 10 (SV.ptr 4 bk 0 :: (SV.int IntKind.i64 x :: (SV.int IntKind.i64 (pExit pt x (-9 : Int)).2 :: (rawR u 106 [] 58)))) 93)))))))))))
                  [Ent.mk (Loc.sl ao cap) (SObj.roL 1 encU8 bs (0 : Int)),
                   Ent.mk (Loc.sl (some (Addr.mk bn 0 (@none Nat))) 3)
                    (SObj.vecL (26 : TypeId) 1 encS [ByteArray.mk #[(97 : UInt8)], ByteArray.mk #[(98 : UInt8)], ByteArray.mk #[(99 : UInt8)]] ByteArray.empty),
                   pkA bp ptE (pExit pt x (-9 : Int)).1, pkA bg grpE gr,
                   Ent.mk (Loc.blk bk)
                    (SObj.cells [SV.ptr 2 bp 0, SV.ptr 3 bg 0, SV.raw v2, SV.raw v3, SV.int IntKind.i64 m, SV.int IntKind.i64 w] (96 : TypeId))])) := by kernel_rfl


theorem kh_19 (K : List Frm → Sy → Prop) (N : List Ent → SV → Prop) (J0 : Act → World → Prop) (ao : Option Addr) (cap : Nat) (bs : List Int) (bn bk bp bg : Nat) (pt : PT) (gr : Grp) (v2 v3 : Value) (m w : Int) (last : Int) (i : Nat) (u : Nat → Value) : (run Tryz.prog khT false [32] K (retP Tryz.prog Tryz.f3.results.toList N) 1500 (frmR [J0] (bodyOf Tryz.f3) 19) ⟨mkT u 164 0 [(0, .vec 0 ao bs.length cap), (3, .ptr 4 bk 0), (4, .ptr 1 bn 0), (6, .int .i64 last), (7, .int .i64 (i : Int)), (9, .int .i64 0)], [⟨.sl ao cap, .roL 1 encU8 bs 0⟩, ⟨.sl (some ⟨bn, 0, none⟩) 3, .vecL 26 1 encS names3 ByteArray.empty⟩, pkA bp ptE (pt), pkA bg grpE (gr), ⟨.blk bk, .cells [.ptr 2 bp 0, .ptr 3 bg 0, .raw v2, .raw v3, .int .i64 m, .int .i64 w] 96⟩]⟩) = (
true = true ∧
 ∀ (b : Nat),
  bk = bk ∧
   true = true ∧
    bp = bp ∧
     ∃ (h : PT = PT),
      AdtIs (fun (s : PT) (b : Nat) ↦ packs (ptE s b)) ptE ∧
       pOk pt ∧
        (b = b ∧ true = true ∧ 6 = 6 ∧ 6 ≤ 6) ∧
         (b = b ∧ 6 = 6) ∧
          K (frmR [J0] (bodyOf Tryz.f3) 32)
           (Sy.mk (SV.vec 0 ao (List.length bs) cap :: (SV.raw (u 1) :: (SV.raw (u 2) :: (SV.ptr 4 bk 0 :: (SV.ptr 1 bn 0 :: (SV.raw (u 5) :: (SV.int IntKind.i64 last :: (SV.int IntKind.i64 (↑i : Int) :: (SV.raw (u 8) :: (SV.int IntKind.i64 (0 : Int) :: (rawR u 10 (SV.ptr 4 bk 0 :: (SV.tuple [SV.agg [SV.int IntKind.i64 (pReap pt (1 : Int)).2.1.1, SV.int IntKind.i64 (pReap pt (1 : Int)).2.1.2, SV.str (pReap pt (1 : Int)).2.1.3, SV.bool (pReap pt (1 : Int)).2.1.4, SV.int IntKind.i64 (pReap pt (1 : Int)).2.1.5, SV.str (pReap pt (1 : Int)).2.1.6], SV.int IntKind.i64 (pReap pt (1 : Int)).2.2] :: (rawR u 59 [] 105))) 47)))))))))))
            [Ent.mk (Loc.sl ao cap) (SObj.roL 1 encU8 bs (0 : Int)),
             Ent.mk (Loc.sl (some (Addr.mk bn 0 (@none Nat))) 3)
              (SObj.vecL (26 : TypeId) 1 encS [ByteArray.mk #[(97 : UInt8)], ByteArray.mk #[(98 : UInt8)], ByteArray.mk #[(99 : UInt8)]] ByteArray.empty),
             pkA bp ptE (pReap pt (1 : Int)).1, pkA bg grpE gr,
             Ent.mk (Loc.blk bk)
              (SObj.cells [SV.ptr 2 bp 0, SV.ptr 3 bg 0, SV.raw v2, SV.raw v3, SV.int IntKind.i64 m, SV.int IntKind.i64 w] (96 : TypeId)),
             Ent.mk (Loc.blk b)
              (SObj.cells
               [SV.int IntKind.i64 (pReap pt (1 : Int)).2.1.1, SV.int IntKind.i64 (pReap pt (1 : Int)).2.1.2, SV.str (pReap pt (1 : Int)).2.1.3, SV.bool (pReap pt (1 : Int)).2.1.4,
                SV.int IntKind.i64 (pReap pt (1 : Int)).2.1.5, SV.str (pReap pt (1 : Int)).2.1.6]
               38)])) := by kernel_rfl


theorem kh_32 (K : List Frm → Sy → Prop) (N : List Ent → SV → Prop) (J0 : Act → World → Prop) (ao : Option Addr) (cap : Nat) (bs : List Int) (bn bk bp bg : Nat) (pt : PT) (gr : Grp) (v2 v3 : Value) (m w : Int) (last : Int) (i : Nat) (n : Int) (u : Nat → Value) : (run Tryz.prog khT false [] K (retP Tryz.prog Tryz.f3.results.toList N) 1500 (frmR [J0] (bodyOf Tryz.f3) 32) ⟨mkT u 164 0 [(0, .vec 0 ao bs.length cap), (3, .ptr 4 bk 0), (4, .ptr 1 bn 0), (6, .int .i64 last), (7, .int .i64 (i : Int)), (9, .int .i64 n)], [⟨.sl ao cap, .roL 1 encU8 bs 0⟩, ⟨.sl (some ⟨bn, 0, none⟩) 3, .vecL 26 1 encS names3 ByteArray.empty⟩, pkA bp ptE (pt), pkA bg grpE (gr), ⟨.blk bk, .cells [.ptr 2 bp 0, .ptr 3 bg 0, .raw v2, .raw v3, .int .i64 m, .int .i64 w] 96⟩]⟩) = (
K
 (frm [J0] (bodyOf Tryz.f3)
  [1, 1, 1, 1, 1, 1, 1, 0, 1, 0, 0, 1, 0, 0, 1, 1, 1,
   1, 1, 0, 1, 0]
  [])
 (Sy.mk (SV.vec 0 ao (List.length bs) cap :: (SV.raw (u 1) :: (SV.raw (u 2) :: (SV.ptr 4 bk 0 :: (SV.ptr 1 bn 0 :: (SV.raw (u 5) :: (SV.int IntKind.i64 (mxI last n) :: (SV.int IntKind.i64 (↑i : Int) :: (SV.raw (u 8) :: (SV.int IntKind.i64 n :: (SV.int IntKind.i64 (0 : Int) :: (SV.int IntKind.i64 (2 : Int) :: (rawR u 12 (SV.int IntKind.i64 last :: (SV.int IntKind.i64 n :: (SV.int IntKind.i64 (mxI last n) :: (rawR u 109 [] 55)))) 94)))))))))))))
  [Ent.mk (Loc.sl ao cap) (SObj.roL 1 encU8 bs (0 : Int)),
   Ent.mk (Loc.sl (some (Addr.mk bn 0 (@none Nat))) 3)
    (SObj.vecL (26 : TypeId) 1 encS [ByteArray.mk #[(97 : UInt8)], ByteArray.mk #[(98 : UInt8)], ByteArray.mk #[(99 : UInt8)]] ByteArray.empty),
   pkA bp ptE pt, pkA bg grpE gr,
   Ent.mk (Loc.blk bk) (SObj.cells [SV.ptr 2 bp 0, SV.ptr 3 bg 0, SV.raw v2, SV.raw v3, SV.int IntKind.i64 m, SV.int IntKind.i64 w] (96 : TypeId))])) := by kernel_rfl


theorem kh_l2 (K : List Frm → Sy → Prop) (N : List Ent → SV → Prop) (J0 J1 : Act → World → Prop) (ao : Option Addr) (cap : Nat) (bs : List Int) (bn bk bp bg : Nat) (pt : PT) (gr : Grp) (v2 v3 : Value) (m w : Int) (last : Int) (i : Nat) (lives : Int) (p : Nat) (u : Nat → Value) : (run Tryz.prog khT false [37, 43] K (retP Tryz.prog Tryz.f3.results.toList N) 1500 (frm [J0, J1] (bodyOf Tryz.f3) [1, 1, 1, 1, 1, 1, 1, 0, 1, 0, 0, 1, 0, 0, 1, 1, 1, 1, 1, 0, 1, 0, 0] []) ⟨mkT u 164 0 [(0, .vec 0 ao bs.length cap), (3, .ptr 4 bk 0), (4, .ptr 1 bn 0), (6, .int .i64 last), (7, .int .i64 (i : Int)), (10, .int .i64 lives), (11, .int .i64 (p : Int))], [⟨.sl ao cap, .roL 1 encU8 bs 0⟩, ⟨.sl (some ⟨bn, 0, none⟩) 3, .vecL 26 1 encS names3 ByteArray.empty⟩, pkA bp ptE (pt), pkA bg grpE (gr), ⟨.blk bk, .cells [.ptr 2 bp 0, .ptr 3 bg 0, .raw v2, .raw v3, .int .i64 m, .int .i64 w] 96⟩]⟩) = (
match decide ((↑p : Int) ≤ last) with
| true =>
 K (frmR [J0, J1] (bodyOf Tryz.f3) 37)
  (Sy.mk (SV.vec 0 ao (List.length bs) cap :: (SV.raw (u 1) :: (SV.raw (u 2) :: (SV.ptr 4 bk 0 :: (SV.ptr 1 bn 0 :: (SV.raw (u 5) :: (SV.int IntKind.i64 last :: (SV.int IntKind.i64 (↑i : Int) :: (SV.raw (u 8) :: (SV.raw (u 9) :: (SV.int IntKind.i64 lives :: (SV.int IntKind.i64 (↑p : Int) :: (rawR u 12 (SV.int IntKind.i64 (↑p : Int) :: (SV.int IntKind.i64 last :: (SV.bool true :: (rawR u 112 [] 52)))) 97)))))))))))))
   [Ent.mk (Loc.sl ao cap) (SObj.roL 1 encU8 bs (0 : Int)),
    Ent.mk (Loc.sl (some (Addr.mk bn 0 (@none Nat))) 3)
     (SObj.vecL (26 : TypeId) 1 encS [ByteArray.mk #[(97 : UInt8)], ByteArray.mk #[(98 : UInt8)], ByteArray.mk #[(99 : UInt8)]] ByteArray.empty),
    pkA bp ptE pt, pkA bg grpE gr,
    Ent.mk (Loc.blk bk) (SObj.cells [SV.ptr 2 bp 0, SV.ptr 3 bg 0, SV.raw v2, SV.raw v3, SV.int IntKind.i64 m, SV.int IntKind.i64 w] (96 : TypeId))])
| false =>
 K (frmR [J0] (bodyOf Tryz.f3) 43)
  (Sy.mk (SV.vec 0 ao (List.length bs) cap :: (SV.raw (u 1) :: (SV.raw (u 2) :: (SV.ptr 4 bk 0 :: (SV.ptr 1 bn 0 :: (SV.raw (u 5) :: (SV.int IntKind.i64 last :: (SV.int IntKind.i64 (↑i : Int) :: (SV.raw (u 8) :: (SV.raw (u 9) :: (SV.int IntKind.i64 lives :: (SV.int IntKind.i64 (↑p : Int) :: (rawR u 12 (SV.int IntKind.i64 (↑p : Int) :: (SV.int IntKind.i64 last :: (SV.bool false :: (rawR u 112 [] 52)))) 97)))))))))))))
   [Ent.mk (Loc.sl ao cap) (SObj.roL 1 encU8 bs (0 : Int)),
    Ent.mk (Loc.sl (some (Addr.mk bn 0 (@none Nat))) 3)
     (SObj.vecL (26 : TypeId) 1 encS [ByteArray.mk #[(97 : UInt8)], ByteArray.mk #[(98 : UInt8)], ByteArray.mk #[(99 : UInt8)]] ByteArray.empty),
    pkA bp ptE pt, pkA bg grpE gr,
    Ent.mk (Loc.blk bk) (SObj.cells [SV.ptr 2 bp 0, SV.ptr 3 bg 0, SV.raw v2, SV.raw v3, SV.int IntKind.i64 m, SV.int IntKind.i64 w] (96 : TypeId))])) := by kernel_rfl


theorem kh_37 (K : List Frm → Sy → Prop) (N : List Ent → SV → Prop) (J0 J1 : Act → World → Prop) (ao : Option Addr) (cap : Nat) (bs : List Int) (bn bk bp bg : Nat) (pt : PT) (gr : Grp) (v2 v3 : Value) (m w : Int) (last : Int) (i : Nat) (lives : Int) (p : Nat) (u : Nat → Value) : (run Tryz.prog khT false [] K (retP Tryz.prog Tryz.f3.results.toList N) 1500 (frmR [J0, J1] (bodyOf Tryz.f3) 37) ⟨mkT u 164 0 [(0, .vec 0 ao bs.length cap), (3, .ptr 4 bk 0), (4, .ptr 1 bn 0), (6, .int .i64 last), (7, .int .i64 (i : Int)), (10, .int .i64 lives), (11, .int .i64 (p : Int))], [⟨.sl ao cap, .roL 1 encU8 bs 0⟩, ⟨.sl (some ⟨bn, 0, none⟩) 3, .vecL 26 1 encS names3 ByteArray.empty⟩, pkA bp ptE (pt), pkA bg grpE (gr), ⟨.blk bk, .cells [.ptr 2 bp 0, .ptr 3 bg 0, .raw v2, .raw v3, .int .i64 m, .int .i64 w] 96⟩]⟩) = (
true = true ∧
 bk = bk ∧
  true = true ∧
   bp = bp ∧
    ∃ (h : PT = PT),
     AdtIs (fun (s : PT) (b : Nat) ↦ packs (ptE s b)) ptE ∧
      pOk pt ∧
       ∀ (b : Nat),
        (b = b ∧ true = true ∧ 6 = 6 ∧ 6 ≤ 6) ∧
         true = true ∧
          bk = bk ∧
           true = true ∧
            bg = bg ∧
             ∃ (h : Grp = Grp),
              AdtIs (fun (s : Grp) (b : Nat) ↦ packs (grpE s b)) grpE ∧
               match pHas pt (↑p : Int) with
               | true =>
                b = b ∧
                 match !Option.isSome (mget gr.6 (Key.i IntKind.i64 (↑p : Int))) == !(pGet pt (↑p : Int)).4 with
                 | true =>
                  true = true ∧
                   true = true ∧
                    true = true ∧
                     true = true ∧
                      N
                       [Ent.mk (Loc.sl ao cap) (SObj.roL 1 encU8 bs (0 : Int)),
                        Ent.mk (Loc.sl (some (Addr.mk bn 0 (@none Nat))) 3)
                         (SObj.vecL (26 : TypeId) 1 encS [ByteArray.mk #[(97 : UInt8)], ByteArray.mk #[(98 : UInt8)], ByteArray.mk #[(99 : UInt8)]] ByteArray.empty),
                        pkA bp ptE pt, pkA bg grpE gr,
                        Ent.mk (Loc.blk bk)
                         (SObj.cells [SV.ptr 2 bp 0, SV.ptr 3 bg 0, SV.raw v2, SV.raw v3, SV.int IntKind.i64 m, SV.int IntKind.i64 w]
                          (96 : TypeId)),
                        Ent.mk (Loc.blk b)
                         (SObj.cells
                          [SV.int IntKind.i64 (pGet pt (↑p : Int)).1, SV.int IntKind.i64 (pGet pt (↑p : Int)).2, SV.str (pGet pt (↑p : Int)).3,
                           SV.bool (pGet pt (↑p : Int)).4, SV.int IntKind.i64 (pGet pt (↑p : Int)).5, SV.str (pGet pt (↑p : Int)).6]
                          38)]
                       (SV.bool false)
                 | false =>
                  match Option.isSome (mget gr.6 (Key.i IntKind.i64 (↑p : Int))) with
                  | true =>
                   b = b ∧
                    match
                     !sEq
                      (match mget gr.6 (Key.i IntKind.i64 (↑p : Int)) with
                      | some x => x
                      | none => ByteArray.mk #[])
                      (pGet pt (↑p : Int)).3 with
                    | true =>
                     N
                      [Ent.mk (Loc.sl ao cap) (SObj.roL 1 encU8 bs (0 : Int)),
                       Ent.mk (Loc.sl (some (Addr.mk bn 0 (@none Nat))) 3)
                        (SObj.vecL (26 : TypeId) 1 encS [ByteArray.mk #[(97 : UInt8)], ByteArray.mk #[(98 : UInt8)], ByteArray.mk #[(99 : UInt8)]] ByteArray.empty),
                       pkA bp ptE pt, pkA bg grpE gr,
                       Ent.mk (Loc.blk bk)
                        (SObj.cells [SV.ptr 2 bp 0, SV.ptr 3 bg 0, SV.raw v2, SV.raw v3, SV.int IntKind.i64 m, SV.int IntKind.i64 w]
                         (96 : TypeId)),
                       Ent.mk (Loc.blk b)
                        (SObj.cells
                         [SV.int IntKind.i64 (pGet pt (↑p : Int)).1, SV.int IntKind.i64 (pGet pt (↑p : Int)).2, SV.str (pGet pt (↑p : Int)).3, SV.bool (pGet pt (↑p : Int)).4,
                          SV.int IntKind.i64 (pGet pt (↑p : Int)).5, SV.str (pGet pt (↑p : Int)).6]
                         38)]
                      (SV.bool false)
                    | false =>
                     match Option.isSome (mget gr.6 (Key.i IntKind.i64 (↑p : Int))) with
                     | true =>
                      K
                       (Frm.loop J1 ::
                        Frm.blk 5 ::
                         frm [J0] (bodyOf Tryz.f3)
                          [1, 1, 1, 1, 1, 1, 1, 0, 1, 0, 0, 1, 0,
                           0, 1, 1, 1, 1, 1, 1]
                          [])
                       (Sy.mk (SV.vec 0 ao (List.length bs) cap :: (SV.raw (u 1) :: (SV.raw (u 2) :: (SV.ptr 4 bk 0 :: (SV.ptr 1 bn 0 :: (SV.raw (u 5) :: (SV.int IntKind.i64 last :: (SV.int IntKind.i64 (↑i : Int) :: (SV.raw (u 8) :: (SV.raw (u 9) :: (SV.int IntKind.i64 (IntKind.wrap IntKind.i64 (lives + (1 : Int))) :: (SV.int IntKind.i64 (IntKind.wrap IntKind.i64 ((↑p : Int) + (1 : Int))) :: (SV.ptr 5 b 0 :: (SV.bool (pHas pt (↑p : Int)) :: ((SV.str (match mget gr.6 (Key.i IntKind.i64 (↑p : Int)) with | some x => x | none => ByteArray.mk #[])) :: (SV.bool (Option.isSome (mget gr.6 (Key.i IntKind.i64 (↑p : Int)))) :: (rawR u 16 (SV.int IntKind.i64 (↑p : Int) :: (SV.int IntKind.i64 (IntKind.wrap IntKind.i64 ((↑p : Int) + (1 : Int))) :: (SV.tuple [SV.agg [SV.int IntKind.i64 (pGet pt (↑p : Int)).1, SV.int IntKind.i64 (pGet pt (↑p : Int)).2, SV.str (pGet pt (↑p : Int)).3, SV.bool (pGet pt (↑p : Int)).4, SV.int IntKind.i64 (pGet pt (↑p : Int)).5, SV.str (pGet pt (↑p : Int)).6], SV.bool (pHas pt (↑p : Int))] :: (SV.ptr 4 bk 0 :: (SV.ptr 2 bp 0 :: (SV.int IntKind.i64 (↑p : Int) :: (SV.tuple [SV.agg [SV.int IntKind.i64 (pGet pt (↑p : Int)).1, SV.int IntKind.i64 (pGet pt (↑p : Int)).2, SV.str (pGet pt (↑p : Int)).3, SV.bool (pGet pt (↑p : Int)).4, SV.int IntKind.i64 (pGet pt (↑p : Int)).5, SV.str (pGet pt (↑p : Int)).6], SV.bool (pHas pt (↑p : Int))] :: (SV.agg [SV.int IntKind.i64 (pGet pt (↑p : Int)).1, SV.int IntKind.i64 (pGet pt (↑p : Int)).2, SV.str (pGet pt (↑p : Int)).3, SV.bool (pGet pt (↑p : Int)).4, SV.int IntKind.i64 (pGet pt (↑p : Int)).5, SV.str (pGet pt (↑p : Int)).6] :: (SV.bool (pHas pt (↑p : Int)) :: ((SV.tuple [SV.str (match mget gr.6 (Key.i IntKind.i64 (↑p : Int)) with | some x => x | none => ByteArray.mk #[]), SV.bool (Option.isSome (mget gr.6 (Key.i IntKind.i64 (↑p : Int))))]) :: (SV.ptr 4 bk 0 :: (SV.ptr 3 bg 0 :: (SV.int IntKind.i64 (↑p : Int) :: ((SV.tuple [SV.str (match mget gr.6 (Key.i IntKind.i64 (↑p : Int)) with | some x => x | none => ByteArray.mk #[]), SV.bool (Option.isSome (mget gr.6 (Key.i IntKind.i64 (↑p : Int))))]) :: ((SV.str (match mget gr.6 (Key.i IntKind.i64 (↑p : Int)) with | some x => x | none => ByteArray.mk #[])) :: (SV.bool (Option.isSome (mget gr.6 (Key.i IntKind.i64 (↑p : Int)))) :: (SV.bool (Option.isSome (mget gr.6 (Key.i IntKind.i64 (↑p : Int)))) :: (SV.bool (pHas pt (↑p : Int)) :: (SV.bool true :: (SV.ptr 5 b 3 :: (SV.bool (pGet pt (↑p : Int)).4 :: ((SV.bool !(pGet pt (↑p : Int)).4) :: ((SV.bool !(pGet pt (↑p : Int)).4) :: ((SV.bool !Option.isSome (mget gr.6 (Key.i IntKind.i64 (↑p : Int))) == !(pGet pt (↑p : Int)).4) :: (SV.bool false :: (SV.bool (Option.isSome (mget gr.6 (Key.i IntKind.i64 (↑p : Int)))) :: (SV.bool true :: ((SV.str (match mget gr.6 (Key.i IntKind.i64 (↑p : Int)) with | some x => x | none => ByteArray.mk #[])) :: (SV.ptr 5 b 2 :: (SV.str (pGet pt (↑p : Int)).3 :: ((SV.bool !sEq (match mget gr.6 (Key.i IntKind.i64 (↑p : Int)) with | some x => x | none => ByteArray.mk #[]) (pGet pt (↑p : Int)).3) :: ((SV.bool !sEq (match mget gr.6 (Key.i IntKind.i64 (↑p : Int)) with | some x => x | none => ByteArray.mk #[]) (pGet pt (↑p : Int)).3) :: (SV.bool false :: (SV.bool true :: (SV.int IntKind.i64 lives :: (SV.int IntKind.i64 (IntKind.wrap IntKind.i64 (lives + (1 : Int))) :: (rawR u 148 [] 16))))))))))))))))))))))))))))))))))))) 96)))))))))))))))))
                        [Ent.mk (Loc.sl ao cap) (SObj.roL 1 encU8 bs (0 : Int)),
                         Ent.mk (Loc.sl (some (Addr.mk bn 0 (@none Nat))) 3)
                          (SObj.vecL (26 : TypeId) 1 encS [ByteArray.mk #[(97 : UInt8)], ByteArray.mk #[(98 : UInt8)], ByteArray.mk #[(99 : UInt8)]] ByteArray.empty),
                         pkA bp ptE pt, pkA bg grpE gr,
                         Ent.mk (Loc.blk bk)
                          (SObj.cells [SV.ptr 2 bp 0, SV.ptr 3 bg 0, SV.raw v2, SV.raw v3, SV.int IntKind.i64 m, SV.int IntKind.i64 w]
                           (96 : TypeId)),
                         Ent.mk (Loc.blk b)
                          (SObj.cells
                           [SV.int IntKind.i64 (pGet pt (↑p : Int)).1, SV.int IntKind.i64 (pGet pt (↑p : Int)).2, SV.str (pGet pt (↑p : Int)).3,
                            SV.bool (pGet pt (↑p : Int)).4, SV.int IntKind.i64 (pGet pt (↑p : Int)).5, SV.str (pGet pt (↑p : Int)).6]
                           38)])
                     | false =>
                      K
                       (Frm.loop J1 ::
                        Frm.blk 5 ::
                         frm [J0] (bodyOf Tryz.f3)
                          [1, 1, 1, 1, 1, 1, 1, 0, 1, 0, 0, 1, 0,
                           0, 1, 1, 1, 1, 1, 1]
                          [])
                       (Sy.mk (SV.vec 0 ao (List.length bs) cap :: (SV.raw (u 1) :: (SV.raw (u 2) :: (SV.ptr 4 bk 0 :: (SV.ptr 1 bn 0 :: (SV.raw (u 5) :: (SV.int IntKind.i64 last :: (SV.int IntKind.i64 (↑i : Int) :: (SV.raw (u 8) :: (SV.raw (u 9) :: (SV.int IntKind.i64 lives :: (SV.int IntKind.i64 (IntKind.wrap IntKind.i64 ((↑p : Int) + (1 : Int))) :: (SV.ptr 5 b 0 :: (SV.bool (pHas pt (↑p : Int)) :: ((SV.str (match mget gr.6 (Key.i IntKind.i64 (↑p : Int)) with | some x => x | none => ByteArray.mk #[])) :: (SV.bool (Option.isSome (mget gr.6 (Key.i IntKind.i64 (↑p : Int)))) :: (rawR u 16 (SV.int IntKind.i64 (↑p : Int) :: (SV.int IntKind.i64 (IntKind.wrap IntKind.i64 ((↑p : Int) + (1 : Int))) :: (SV.tuple [SV.agg [SV.int IntKind.i64 (pGet pt (↑p : Int)).1, SV.int IntKind.i64 (pGet pt (↑p : Int)).2, SV.str (pGet pt (↑p : Int)).3, SV.bool (pGet pt (↑p : Int)).4, SV.int IntKind.i64 (pGet pt (↑p : Int)).5, SV.str (pGet pt (↑p : Int)).6], SV.bool (pHas pt (↑p : Int))] :: (SV.ptr 4 bk 0 :: (SV.ptr 2 bp 0 :: (SV.int IntKind.i64 (↑p : Int) :: (SV.tuple [SV.agg [SV.int IntKind.i64 (pGet pt (↑p : Int)).1, SV.int IntKind.i64 (pGet pt (↑p : Int)).2, SV.str (pGet pt (↑p : Int)).3, SV.bool (pGet pt (↑p : Int)).4, SV.int IntKind.i64 (pGet pt (↑p : Int)).5, SV.str (pGet pt (↑p : Int)).6], SV.bool (pHas pt (↑p : Int))] :: (SV.agg [SV.int IntKind.i64 (pGet pt (↑p : Int)).1, SV.int IntKind.i64 (pGet pt (↑p : Int)).2, SV.str (pGet pt (↑p : Int)).3, SV.bool (pGet pt (↑p : Int)).4, SV.int IntKind.i64 (pGet pt (↑p : Int)).5, SV.str (pGet pt (↑p : Int)).6] :: (SV.bool (pHas pt (↑p : Int)) :: ((SV.tuple [SV.str (match mget gr.6 (Key.i IntKind.i64 (↑p : Int)) with | some x => x | none => ByteArray.mk #[]), SV.bool (Option.isSome (mget gr.6 (Key.i IntKind.i64 (↑p : Int))))]) :: (SV.ptr 4 bk 0 :: (SV.ptr 3 bg 0 :: (SV.int IntKind.i64 (↑p : Int) :: ((SV.tuple [SV.str (match mget gr.6 (Key.i IntKind.i64 (↑p : Int)) with | some x => x | none => ByteArray.mk #[]), SV.bool (Option.isSome (mget gr.6 (Key.i IntKind.i64 (↑p : Int))))]) :: ((SV.str (match mget gr.6 (Key.i IntKind.i64 (↑p : Int)) with | some x => x | none => ByteArray.mk #[])) :: (SV.bool (Option.isSome (mget gr.6 (Key.i IntKind.i64 (↑p : Int)))) :: (SV.bool (Option.isSome (mget gr.6 (Key.i IntKind.i64 (↑p : Int)))) :: (SV.bool (pHas pt (↑p : Int)) :: (SV.bool true :: (SV.ptr 5 b 3 :: (SV.bool (pGet pt (↑p : Int)).4 :: ((SV.bool !(pGet pt (↑p : Int)).4) :: ((SV.bool !(pGet pt (↑p : Int)).4) :: ((SV.bool !Option.isSome (mget gr.6 (Key.i IntKind.i64 (↑p : Int))) == !(pGet pt (↑p : Int)).4) :: (SV.bool false :: (SV.bool (Option.isSome (mget gr.6 (Key.i IntKind.i64 (↑p : Int)))) :: (SV.bool true :: ((SV.str (match mget gr.6 (Key.i IntKind.i64 (↑p : Int)) with | some x => x | none => ByteArray.mk #[])) :: (SV.ptr 5 b 2 :: (SV.str (pGet pt (↑p : Int)).3 :: ((SV.bool !sEq (match mget gr.6 (Key.i IntKind.i64 (↑p : Int)) with | some x => x | none => ByteArray.mk #[]) (pGet pt (↑p : Int)).3) :: ((SV.bool !sEq (match mget gr.6 (Key.i IntKind.i64 (↑p : Int)) with | some x => x | none => ByteArray.mk #[]) (pGet pt (↑p : Int)).3) :: (SV.bool false :: (SV.bool false :: (rawR u 146 [] 18))))))))))))))))))))))))))))))))))) 96)))))))))))))))))
                        [Ent.mk (Loc.sl ao cap) (SObj.roL 1 encU8 bs (0 : Int)),
                         Ent.mk (Loc.sl (some (Addr.mk bn 0 (@none Nat))) 3)
                          (SObj.vecL (26 : TypeId) 1 encS [ByteArray.mk #[(97 : UInt8)], ByteArray.mk #[(98 : UInt8)], ByteArray.mk #[(99 : UInt8)]] ByteArray.empty),
                         pkA bp ptE pt, pkA bg grpE gr,
                         Ent.mk (Loc.blk bk)
                          (SObj.cells [SV.ptr 2 bp 0, SV.ptr 3 bg 0, SV.raw v2, SV.raw v3, SV.int IntKind.i64 m, SV.int IntKind.i64 w]
                           (96 : TypeId)),
                         Ent.mk (Loc.blk b)
                          (SObj.cells
                           [SV.int IntKind.i64 (pGet pt (↑p : Int)).1, SV.int IntKind.i64 (pGet pt (↑p : Int)).2, SV.str (pGet pt (↑p : Int)).3,
                            SV.bool (pGet pt (↑p : Int)).4, SV.int IntKind.i64 (pGet pt (↑p : Int)).5, SV.str (pGet pt (↑p : Int)).6]
                           38)])
                  | false =>
                   match Option.isSome (mget gr.6 (Key.i IntKind.i64 (↑p : Int))) with
                   | true =>
                    K
                     (Frm.loop J1 ::
                      Frm.blk 5 ::
                       frm [J0] (bodyOf Tryz.f3)
                        [1, 1, 1, 1, 1, 1, 1, 0, 1, 0, 0, 1, 0,
                         0, 1, 1, 1, 1, 1, 1]
                        [])
                     (Sy.mk (SV.vec 0 ao (List.length bs) cap :: (SV.raw (u 1) :: (SV.raw (u 2) :: (SV.ptr 4 bk 0 :: (SV.ptr 1 bn 0 :: (SV.raw (u 5) :: (SV.int IntKind.i64 last :: (SV.int IntKind.i64 (↑i : Int) :: (SV.raw (u 8) :: (SV.raw (u 9) :: (SV.int IntKind.i64 (IntKind.wrap IntKind.i64 (lives + (1 : Int))) :: (SV.int IntKind.i64 (IntKind.wrap IntKind.i64 ((↑p : Int) + (1 : Int))) :: (SV.ptr 5 b 0 :: (SV.bool (pHas pt (↑p : Int)) :: ((SV.str (match mget gr.6 (Key.i IntKind.i64 (↑p : Int)) with | some x => x | none => ByteArray.mk #[])) :: (SV.bool (Option.isSome (mget gr.6 (Key.i IntKind.i64 (↑p : Int)))) :: (rawR u 16 (SV.int IntKind.i64 (↑p : Int) :: (SV.int IntKind.i64 (IntKind.wrap IntKind.i64 ((↑p : Int) + (1 : Int))) :: (SV.tuple [SV.agg [SV.int IntKind.i64 (pGet pt (↑p : Int)).1, SV.int IntKind.i64 (pGet pt (↑p : Int)).2, SV.str (pGet pt (↑p : Int)).3, SV.bool (pGet pt (↑p : Int)).4, SV.int IntKind.i64 (pGet pt (↑p : Int)).5, SV.str (pGet pt (↑p : Int)).6], SV.bool (pHas pt (↑p : Int))] :: (SV.ptr 4 bk 0 :: (SV.ptr 2 bp 0 :: (SV.int IntKind.i64 (↑p : Int) :: (SV.tuple [SV.agg [SV.int IntKind.i64 (pGet pt (↑p : Int)).1, SV.int IntKind.i64 (pGet pt (↑p : Int)).2, SV.str (pGet pt (↑p : Int)).3, SV.bool (pGet pt (↑p : Int)).4, SV.int IntKind.i64 (pGet pt (↑p : Int)).5, SV.str (pGet pt (↑p : Int)).6], SV.bool (pHas pt (↑p : Int))] :: (SV.agg [SV.int IntKind.i64 (pGet pt (↑p : Int)).1, SV.int IntKind.i64 (pGet pt (↑p : Int)).2, SV.str (pGet pt (↑p : Int)).3, SV.bool (pGet pt (↑p : Int)).4, SV.int IntKind.i64 (pGet pt (↑p : Int)).5, SV.str (pGet pt (↑p : Int)).6] :: (SV.bool (pHas pt (↑p : Int)) :: ((SV.tuple [SV.str (match mget gr.6 (Key.i IntKind.i64 (↑p : Int)) with | some x => x | none => ByteArray.mk #[]), SV.bool (Option.isSome (mget gr.6 (Key.i IntKind.i64 (↑p : Int))))]) :: (SV.ptr 4 bk 0 :: (SV.ptr 3 bg 0 :: (SV.int IntKind.i64 (↑p : Int) :: ((SV.tuple [SV.str (match mget gr.6 (Key.i IntKind.i64 (↑p : Int)) with | some x => x | none => ByteArray.mk #[]), SV.bool (Option.isSome (mget gr.6 (Key.i IntKind.i64 (↑p : Int))))]) :: ((SV.str (match mget gr.6 (Key.i IntKind.i64 (↑p : Int)) with | some x => x | none => ByteArray.mk #[])) :: (SV.bool (Option.isSome (mget gr.6 (Key.i IntKind.i64 (↑p : Int)))) :: (SV.bool (Option.isSome (mget gr.6 (Key.i IntKind.i64 (↑p : Int)))) :: (SV.bool (pHas pt (↑p : Int)) :: (SV.bool true :: (SV.ptr 5 b 3 :: (SV.bool (pGet pt (↑p : Int)).4 :: ((SV.bool !(pGet pt (↑p : Int)).4) :: ((SV.bool !(pGet pt (↑p : Int)).4) :: ((SV.bool !Option.isSome (mget gr.6 (Key.i IntKind.i64 (↑p : Int))) == !(pGet pt (↑p : Int)).4) :: (SV.bool false :: (SV.bool (Option.isSome (mget gr.6 (Key.i IntKind.i64 (↑p : Int)))) :: (SV.bool false :: (rawE (SV.bool false :: (SV.bool false :: (SV.bool true :: (SV.int IntKind.i64 lives :: (SV.int IntKind.i64 (IntKind.wrap IntKind.i64 (lives + (1 : Int))) :: (rawR u 148 [] 16)))))) 4)))))))))))))))))))))))))))) 96)))))))))))))))))
                      [Ent.mk (Loc.sl ao cap) (SObj.roL 1 encU8 bs (0 : Int)),
                       Ent.mk (Loc.sl (some (Addr.mk bn 0 (@none Nat))) 3)
                        (SObj.vecL (26 : TypeId) 1 encS [ByteArray.mk #[(97 : UInt8)], ByteArray.mk #[(98 : UInt8)], ByteArray.mk #[(99 : UInt8)]] ByteArray.empty),
                       pkA bp ptE pt, pkA bg grpE gr,
                       Ent.mk (Loc.blk bk)
                        (SObj.cells [SV.ptr 2 bp 0, SV.ptr 3 bg 0, SV.raw v2, SV.raw v3, SV.int IntKind.i64 m, SV.int IntKind.i64 w]
                         (96 : TypeId)),
                       Ent.mk (Loc.blk b)
                        (SObj.cells
                         [SV.int IntKind.i64 (pGet pt (↑p : Int)).1, SV.int IntKind.i64 (pGet pt (↑p : Int)).2, SV.str (pGet pt (↑p : Int)).3, SV.bool (pGet pt (↑p : Int)).4,
                          SV.int IntKind.i64 (pGet pt (↑p : Int)).5, SV.str (pGet pt (↑p : Int)).6]
                         38)])
                   | false =>
                    K
                     (Frm.loop J1 ::
                      Frm.blk 5 ::
                       frm [J0] (bodyOf Tryz.f3)
                        [1, 1, 1, 1, 1, 1, 1, 0, 1, 0, 0, 1, 0,
                         0, 1, 1, 1, 1, 1, 1]
                        [])
                     (Sy.mk (SV.vec 0 ao (List.length bs) cap :: (SV.raw (u 1) :: (SV.raw (u 2) :: (SV.ptr 4 bk 0 :: (SV.ptr 1 bn 0 :: (SV.raw (u 5) :: (SV.int IntKind.i64 last :: (SV.int IntKind.i64 (↑i : Int) :: (SV.raw (u 8) :: (SV.raw (u 9) :: (SV.int IntKind.i64 lives :: (SV.int IntKind.i64 (IntKind.wrap IntKind.i64 ((↑p : Int) + (1 : Int))) :: (SV.ptr 5 b 0 :: (SV.bool (pHas pt (↑p : Int)) :: ((SV.str (match mget gr.6 (Key.i IntKind.i64 (↑p : Int)) with | some x => x | none => ByteArray.mk #[])) :: (SV.bool (Option.isSome (mget gr.6 (Key.i IntKind.i64 (↑p : Int)))) :: (rawR u 16 (SV.int IntKind.i64 (↑p : Int) :: (SV.int IntKind.i64 (IntKind.wrap IntKind.i64 ((↑p : Int) + (1 : Int))) :: (SV.tuple [SV.agg [SV.int IntKind.i64 (pGet pt (↑p : Int)).1, SV.int IntKind.i64 (pGet pt (↑p : Int)).2, SV.str (pGet pt (↑p : Int)).3, SV.bool (pGet pt (↑p : Int)).4, SV.int IntKind.i64 (pGet pt (↑p : Int)).5, SV.str (pGet pt (↑p : Int)).6], SV.bool (pHas pt (↑p : Int))] :: (SV.ptr 4 bk 0 :: (SV.ptr 2 bp 0 :: (SV.int IntKind.i64 (↑p : Int) :: (SV.tuple [SV.agg [SV.int IntKind.i64 (pGet pt (↑p : Int)).1, SV.int IntKind.i64 (pGet pt (↑p : Int)).2, SV.str (pGet pt (↑p : Int)).3, SV.bool (pGet pt (↑p : Int)).4, SV.int IntKind.i64 (pGet pt (↑p : Int)).5, SV.str (pGet pt (↑p : Int)).6], SV.bool (pHas pt (↑p : Int))] :: (SV.agg [SV.int IntKind.i64 (pGet pt (↑p : Int)).1, SV.int IntKind.i64 (pGet pt (↑p : Int)).2, SV.str (pGet pt (↑p : Int)).3, SV.bool (pGet pt (↑p : Int)).4, SV.int IntKind.i64 (pGet pt (↑p : Int)).5, SV.str (pGet pt (↑p : Int)).6] :: (SV.bool (pHas pt (↑p : Int)) :: ((SV.tuple [SV.str (match mget gr.6 (Key.i IntKind.i64 (↑p : Int)) with | some x => x | none => ByteArray.mk #[]), SV.bool (Option.isSome (mget gr.6 (Key.i IntKind.i64 (↑p : Int))))]) :: (SV.ptr 4 bk 0 :: (SV.ptr 3 bg 0 :: (SV.int IntKind.i64 (↑p : Int) :: ((SV.tuple [SV.str (match mget gr.6 (Key.i IntKind.i64 (↑p : Int)) with | some x => x | none => ByteArray.mk #[]), SV.bool (Option.isSome (mget gr.6 (Key.i IntKind.i64 (↑p : Int))))]) :: ((SV.str (match mget gr.6 (Key.i IntKind.i64 (↑p : Int)) with | some x => x | none => ByteArray.mk #[])) :: (SV.bool (Option.isSome (mget gr.6 (Key.i IntKind.i64 (↑p : Int)))) :: (SV.bool (Option.isSome (mget gr.6 (Key.i IntKind.i64 (↑p : Int)))) :: (SV.bool (pHas pt (↑p : Int)) :: (SV.bool true :: (SV.ptr 5 b 3 :: (SV.bool (pGet pt (↑p : Int)).4 :: ((SV.bool !(pGet pt (↑p : Int)).4) :: ((SV.bool !(pGet pt (↑p : Int)).4) :: ((SV.bool !Option.isSome (mget gr.6 (Key.i IntKind.i64 (↑p : Int))) == !(pGet pt (↑p : Int)).4) :: (SV.bool false :: (SV.bool (Option.isSome (mget gr.6 (Key.i IntKind.i64 (↑p : Int)))) :: (SV.bool false :: (rawE (SV.bool false :: (SV.bool false :: (SV.bool false :: (rawR u 146 [] 18)))) 4)))))))))))))))))))))))))))) 96)))))))))))))))))
                      [Ent.mk (Loc.sl ao cap) (SObj.roL 1 encU8 bs (0 : Int)),
                       Ent.mk (Loc.sl (some (Addr.mk bn 0 (@none Nat))) 3)
                        (SObj.vecL (26 : TypeId) 1 encS [ByteArray.mk #[(97 : UInt8)], ByteArray.mk #[(98 : UInt8)], ByteArray.mk #[(99 : UInt8)]] ByteArray.empty),
                       pkA bp ptE pt, pkA bg grpE gr,
                       Ent.mk (Loc.blk bk)
                        (SObj.cells [SV.ptr 2 bp 0, SV.ptr 3 bg 0, SV.raw v2, SV.raw v3, SV.int IntKind.i64 m, SV.int IntKind.i64 w]
                         (96 : TypeId)),
                       Ent.mk (Loc.blk b)
                        (SObj.cells
                         [SV.int IntKind.i64 (pGet pt (↑p : Int)).1, SV.int IntKind.i64 (pGet pt (↑p : Int)).2, SV.str (pGet pt (↑p : Int)).3, SV.bool (pGet pt (↑p : Int)).4,
                          SV.int IntKind.i64 (pGet pt (↑p : Int)).5, SV.str (pGet pt (↑p : Int)).6]
                         38)])
               | false =>
                match !Option.isSome (mget gr.6 (Key.i IntKind.i64 (↑p : Int))) == false with
                | true =>
                 true = true ∧
                  true = true ∧
                   true = true ∧
                    true = true ∧
                     N
                      [Ent.mk (Loc.sl ao cap) (SObj.roL 1 encU8 bs (0 : Int)),
                       Ent.mk (Loc.sl (some (Addr.mk bn 0 (@none Nat))) 3)
                        (SObj.vecL (26 : TypeId) 1 encS [ByteArray.mk #[(97 : UInt8)], ByteArray.mk #[(98 : UInt8)], ByteArray.mk #[(99 : UInt8)]] ByteArray.empty),
                       pkA bp ptE pt, pkA bg grpE gr,
                       Ent.mk (Loc.blk bk)
                        (SObj.cells [SV.ptr 2 bp 0, SV.ptr 3 bg 0, SV.raw v2, SV.raw v3, SV.int IntKind.i64 m, SV.int IntKind.i64 w]
                         (96 : TypeId)),
                       Ent.mk (Loc.blk b)
                        (SObj.cells
                         [SV.int IntKind.i64 (pGet pt (↑p : Int)).1, SV.int IntKind.i64 (pGet pt (↑p : Int)).2, SV.str (pGet pt (↑p : Int)).3, SV.bool (pGet pt (↑p : Int)).4,
                          SV.int IntKind.i64 (pGet pt (↑p : Int)).5, SV.str (pGet pt (↑p : Int)).6]
                         38)]
                      (SV.bool false)
                | false =>
                 match Option.isSome (mget gr.6 (Key.i IntKind.i64 (↑p : Int))) with
                 | true =>
                  b = b ∧
                   match
                    !sEq
                     (match mget gr.6 (Key.i IntKind.i64 (↑p : Int)) with
                     | some x => x
                     | none => ByteArray.mk #[])
                     (pGet pt (↑p : Int)).3 with
                   | true =>
                    N
                     [Ent.mk (Loc.sl ao cap) (SObj.roL 1 encU8 bs (0 : Int)),
                      Ent.mk (Loc.sl (some (Addr.mk bn 0 (@none Nat))) 3)
                       (SObj.vecL (26 : TypeId) 1 encS [ByteArray.mk #[(97 : UInt8)], ByteArray.mk #[(98 : UInt8)], ByteArray.mk #[(99 : UInt8)]] ByteArray.empty),
                      pkA bp ptE pt, pkA bg grpE gr,
                      Ent.mk (Loc.blk bk)
                       (SObj.cells [SV.ptr 2 bp 0, SV.ptr 3 bg 0, SV.raw v2, SV.raw v3, SV.int IntKind.i64 m, SV.int IntKind.i64 w]
                        (96 : TypeId)),
                      Ent.mk (Loc.blk b)
                       (SObj.cells
                        [SV.int IntKind.i64 (pGet pt (↑p : Int)).1, SV.int IntKind.i64 (pGet pt (↑p : Int)).2, SV.str (pGet pt (↑p : Int)).3, SV.bool (pGet pt (↑p : Int)).4,
                         SV.int IntKind.i64 (pGet pt (↑p : Int)).5, SV.str (pGet pt (↑p : Int)).6]
                        38)]
                     (SV.bool false)
                   | false =>
                    match Option.isSome (mget gr.6 (Key.i IntKind.i64 (↑p : Int))) with
                    | true =>
                     K
                      (Frm.loop J1 ::
                       Frm.blk 5 ::
                        frm [J0] (bodyOf Tryz.f3)
                         [1, 1, 1, 1, 1, 1, 1, 0, 1, 0, 0, 1, 0,
                          0, 1, 1, 1, 1, 1, 1]
                         [])
                      (Sy.mk (SV.vec 0 ao (List.length bs) cap :: (SV.raw (u 1) :: (SV.raw (u 2) :: (SV.ptr 4 bk 0 :: (SV.ptr 1 bn 0 :: (SV.raw (u 5) :: (SV.int IntKind.i64 last :: (SV.int IntKind.i64 (↑i : Int) :: (SV.raw (u 8) :: (SV.raw (u 9) :: (SV.int IntKind.i64 (IntKind.wrap IntKind.i64 (lives + (1 : Int))) :: (SV.int IntKind.i64 (IntKind.wrap IntKind.i64 ((↑p : Int) + (1 : Int))) :: (SV.ptr 5 b 0 :: (SV.bool (pHas pt (↑p : Int)) :: ((SV.str (match mget gr.6 (Key.i IntKind.i64 (↑p : Int)) with | some x => x | none => ByteArray.mk #[])) :: (SV.bool (Option.isSome (mget gr.6 (Key.i IntKind.i64 (↑p : Int)))) :: (rawR u 16 (SV.int IntKind.i64 (↑p : Int) :: (SV.int IntKind.i64 (IntKind.wrap IntKind.i64 ((↑p : Int) + (1 : Int))) :: (SV.tuple [SV.agg [SV.int IntKind.i64 (pGet pt (↑p : Int)).1, SV.int IntKind.i64 (pGet pt (↑p : Int)).2, SV.str (pGet pt (↑p : Int)).3, SV.bool (pGet pt (↑p : Int)).4, SV.int IntKind.i64 (pGet pt (↑p : Int)).5, SV.str (pGet pt (↑p : Int)).6], SV.bool (pHas pt (↑p : Int))] :: (SV.ptr 4 bk 0 :: (SV.ptr 2 bp 0 :: (SV.int IntKind.i64 (↑p : Int) :: (SV.tuple [SV.agg [SV.int IntKind.i64 (pGet pt (↑p : Int)).1, SV.int IntKind.i64 (pGet pt (↑p : Int)).2, SV.str (pGet pt (↑p : Int)).3, SV.bool (pGet pt (↑p : Int)).4, SV.int IntKind.i64 (pGet pt (↑p : Int)).5, SV.str (pGet pt (↑p : Int)).6], SV.bool (pHas pt (↑p : Int))] :: (SV.agg [SV.int IntKind.i64 (pGet pt (↑p : Int)).1, SV.int IntKind.i64 (pGet pt (↑p : Int)).2, SV.str (pGet pt (↑p : Int)).3, SV.bool (pGet pt (↑p : Int)).4, SV.int IntKind.i64 (pGet pt (↑p : Int)).5, SV.str (pGet pt (↑p : Int)).6] :: (SV.bool (pHas pt (↑p : Int)) :: ((SV.tuple [SV.str (match mget gr.6 (Key.i IntKind.i64 (↑p : Int)) with | some x => x | none => ByteArray.mk #[]), SV.bool (Option.isSome (mget gr.6 (Key.i IntKind.i64 (↑p : Int))))]) :: (SV.ptr 4 bk 0 :: (SV.ptr 3 bg 0 :: (SV.int IntKind.i64 (↑p : Int) :: ((SV.tuple [SV.str (match mget gr.6 (Key.i IntKind.i64 (↑p : Int)) with | some x => x | none => ByteArray.mk #[]), SV.bool (Option.isSome (mget gr.6 (Key.i IntKind.i64 (↑p : Int))))]) :: ((SV.str (match mget gr.6 (Key.i IntKind.i64 (↑p : Int)) with | some x => x | none => ByteArray.mk #[])) :: (SV.bool (Option.isSome (mget gr.6 (Key.i IntKind.i64 (↑p : Int)))) :: (SV.bool (Option.isSome (mget gr.6 (Key.i IntKind.i64 (↑p : Int)))) :: (SV.bool (pHas pt (↑p : Int)) :: (SV.bool false :: (rawE (SV.bool false :: ((SV.bool !Option.isSome (mget gr.6 (Key.i IntKind.i64 (↑p : Int))) == false) :: (SV.bool false :: (SV.bool (Option.isSome (mget gr.6 (Key.i IntKind.i64 (↑p : Int)))) :: (SV.bool true :: ((SV.str (match mget gr.6 (Key.i IntKind.i64 (↑p : Int)) with | some x => x | none => ByteArray.mk #[])) :: (SV.ptr 5 b 2 :: (SV.str (pGet pt (↑p : Int)).3 :: ((SV.bool !sEq (match mget gr.6 (Key.i IntKind.i64 (↑p : Int)) with | some x => x | none => ByteArray.mk #[]) (pGet pt (↑p : Int)).3) :: ((SV.bool !sEq (match mget gr.6 (Key.i IntKind.i64 (↑p : Int)) with | some x => x | none => ByteArray.mk #[]) (pGet pt (↑p : Int)).3) :: (SV.bool false :: (SV.bool true :: (SV.int IntKind.i64 lives :: (SV.int IntKind.i64 (IntKind.wrap IntKind.i64 (lives + (1 : Int))) :: (rawR u 148 [] 16))))))))))))))) 3)))))))))))))))))))) 96)))))))))))))))))
                       [Ent.mk (Loc.sl ao cap) (SObj.roL 1 encU8 bs (0 : Int)),
                        Ent.mk (Loc.sl (some (Addr.mk bn 0 (@none Nat))) 3)
                         (SObj.vecL (26 : TypeId) 1 encS [ByteArray.mk #[(97 : UInt8)], ByteArray.mk #[(98 : UInt8)], ByteArray.mk #[(99 : UInt8)]] ByteArray.empty),
                        pkA bp ptE pt, pkA bg grpE gr,
                        Ent.mk (Loc.blk bk)
                         (SObj.cells [SV.ptr 2 bp 0, SV.ptr 3 bg 0, SV.raw v2, SV.raw v3, SV.int IntKind.i64 m, SV.int IntKind.i64 w]
                          (96 : TypeId)),
                        Ent.mk (Loc.blk b)
                         (SObj.cells
                          [SV.int IntKind.i64 (pGet pt (↑p : Int)).1, SV.int IntKind.i64 (pGet pt (↑p : Int)).2, SV.str (pGet pt (↑p : Int)).3,
                           SV.bool (pGet pt (↑p : Int)).4, SV.int IntKind.i64 (pGet pt (↑p : Int)).5, SV.str (pGet pt (↑p : Int)).6]
                          38)])
                    | false =>
                     K
                      (Frm.loop J1 ::
                       Frm.blk 5 ::
                        frm [J0] (bodyOf Tryz.f3)
                         [1, 1, 1, 1, 1, 1, 1, 0, 1, 0, 0, 1, 0,
                          0, 1, 1, 1, 1, 1, 1]
                         [])
                      (Sy.mk (SV.vec 0 ao (List.length bs) cap :: (SV.raw (u 1) :: (SV.raw (u 2) :: (SV.ptr 4 bk 0 :: (SV.ptr 1 bn 0 :: (SV.raw (u 5) :: (SV.int IntKind.i64 last :: (SV.int IntKind.i64 (↑i : Int) :: (SV.raw (u 8) :: (SV.raw (u 9) :: (SV.int IntKind.i64 lives :: (SV.int IntKind.i64 (IntKind.wrap IntKind.i64 ((↑p : Int) + (1 : Int))) :: (SV.ptr 5 b 0 :: (SV.bool (pHas pt (↑p : Int)) :: ((SV.str (match mget gr.6 (Key.i IntKind.i64 (↑p : Int)) with | some x => x | none => ByteArray.mk #[])) :: (SV.bool (Option.isSome (mget gr.6 (Key.i IntKind.i64 (↑p : Int)))) :: (rawR u 16 (SV.int IntKind.i64 (↑p : Int) :: (SV.int IntKind.i64 (IntKind.wrap IntKind.i64 ((↑p : Int) + (1 : Int))) :: (SV.tuple [SV.agg [SV.int IntKind.i64 (pGet pt (↑p : Int)).1, SV.int IntKind.i64 (pGet pt (↑p : Int)).2, SV.str (pGet pt (↑p : Int)).3, SV.bool (pGet pt (↑p : Int)).4, SV.int IntKind.i64 (pGet pt (↑p : Int)).5, SV.str (pGet pt (↑p : Int)).6], SV.bool (pHas pt (↑p : Int))] :: (SV.ptr 4 bk 0 :: (SV.ptr 2 bp 0 :: (SV.int IntKind.i64 (↑p : Int) :: (SV.tuple [SV.agg [SV.int IntKind.i64 (pGet pt (↑p : Int)).1, SV.int IntKind.i64 (pGet pt (↑p : Int)).2, SV.str (pGet pt (↑p : Int)).3, SV.bool (pGet pt (↑p : Int)).4, SV.int IntKind.i64 (pGet pt (↑p : Int)).5, SV.str (pGet pt (↑p : Int)).6], SV.bool (pHas pt (↑p : Int))] :: (SV.agg [SV.int IntKind.i64 (pGet pt (↑p : Int)).1, SV.int IntKind.i64 (pGet pt (↑p : Int)).2, SV.str (pGet pt (↑p : Int)).3, SV.bool (pGet pt (↑p : Int)).4, SV.int IntKind.i64 (pGet pt (↑p : Int)).5, SV.str (pGet pt (↑p : Int)).6] :: (SV.bool (pHas pt (↑p : Int)) :: ((SV.tuple [SV.str (match mget gr.6 (Key.i IntKind.i64 (↑p : Int)) with | some x => x | none => ByteArray.mk #[]), SV.bool (Option.isSome (mget gr.6 (Key.i IntKind.i64 (↑p : Int))))]) :: (SV.ptr 4 bk 0 :: (SV.ptr 3 bg 0 :: (SV.int IntKind.i64 (↑p : Int) :: ((SV.tuple [SV.str (match mget gr.6 (Key.i IntKind.i64 (↑p : Int)) with | some x => x | none => ByteArray.mk #[]), SV.bool (Option.isSome (mget gr.6 (Key.i IntKind.i64 (↑p : Int))))]) :: ((SV.str (match mget gr.6 (Key.i IntKind.i64 (↑p : Int)) with | some x => x | none => ByteArray.mk #[])) :: (SV.bool (Option.isSome (mget gr.6 (Key.i IntKind.i64 (↑p : Int)))) :: (SV.bool (Option.isSome (mget gr.6 (Key.i IntKind.i64 (↑p : Int)))) :: (SV.bool (pHas pt (↑p : Int)) :: (SV.bool false :: (rawE (SV.bool false :: ((SV.bool !Option.isSome (mget gr.6 (Key.i IntKind.i64 (↑p : Int))) == false) :: (SV.bool false :: (SV.bool (Option.isSome (mget gr.6 (Key.i IntKind.i64 (↑p : Int)))) :: (SV.bool true :: ((SV.str (match mget gr.6 (Key.i IntKind.i64 (↑p : Int)) with | some x => x | none => ByteArray.mk #[])) :: (SV.ptr 5 b 2 :: (SV.str (pGet pt (↑p : Int)).3 :: ((SV.bool !sEq (match mget gr.6 (Key.i IntKind.i64 (↑p : Int)) with | some x => x | none => ByteArray.mk #[]) (pGet pt (↑p : Int)).3) :: ((SV.bool !sEq (match mget gr.6 (Key.i IntKind.i64 (↑p : Int)) with | some x => x | none => ByteArray.mk #[]) (pGet pt (↑p : Int)).3) :: (SV.bool false :: (SV.bool false :: (rawR u 146 [] 18))))))))))))) 3)))))))))))))))))))) 96)))))))))))))))))
                       [Ent.mk (Loc.sl ao cap) (SObj.roL 1 encU8 bs (0 : Int)),
                        Ent.mk (Loc.sl (some (Addr.mk bn 0 (@none Nat))) 3)
                         (SObj.vecL (26 : TypeId) 1 encS [ByteArray.mk #[(97 : UInt8)], ByteArray.mk #[(98 : UInt8)], ByteArray.mk #[(99 : UInt8)]] ByteArray.empty),
                        pkA bp ptE pt, pkA bg grpE gr,
                        Ent.mk (Loc.blk bk)
                         (SObj.cells [SV.ptr 2 bp 0, SV.ptr 3 bg 0, SV.raw v2, SV.raw v3, SV.int IntKind.i64 m, SV.int IntKind.i64 w]
                          (96 : TypeId)),
                        Ent.mk (Loc.blk b)
                         (SObj.cells
                          [SV.int IntKind.i64 (pGet pt (↑p : Int)).1, SV.int IntKind.i64 (pGet pt (↑p : Int)).2, SV.str (pGet pt (↑p : Int)).3,
                           SV.bool (pGet pt (↑p : Int)).4, SV.int IntKind.i64 (pGet pt (↑p : Int)).5, SV.str (pGet pt (↑p : Int)).6]
                          38)])
                 | false =>
                  match Option.isSome (mget gr.6 (Key.i IntKind.i64 (↑p : Int))) with
                  | true =>
                   K
                    (Frm.loop J1 ::
                     Frm.blk 5 ::
                      frm [J0] (bodyOf Tryz.f3)
                       [1, 1, 1, 1, 1, 1, 1, 0, 1, 0, 0, 1, 0, 0,
                        1, 1, 1, 1, 1, 1]
                       [])
                    (Sy.mk (SV.vec 0 ao (List.length bs) cap :: (SV.raw (u 1) :: (SV.raw (u 2) :: (SV.ptr 4 bk 0 :: (SV.ptr 1 bn 0 :: (SV.raw (u 5) :: (SV.int IntKind.i64 last :: (SV.int IntKind.i64 (↑i : Int) :: (SV.raw (u 8) :: (SV.raw (u 9) :: (SV.int IntKind.i64 (IntKind.wrap IntKind.i64 (lives + (1 : Int))) :: (SV.int IntKind.i64 (IntKind.wrap IntKind.i64 ((↑p : Int) + (1 : Int))) :: (SV.ptr 5 b 0 :: (SV.bool (pHas pt (↑p : Int)) :: ((SV.str (match mget gr.6 (Key.i IntKind.i64 (↑p : Int)) with | some x => x | none => ByteArray.mk #[])) :: (SV.bool (Option.isSome (mget gr.6 (Key.i IntKind.i64 (↑p : Int)))) :: (rawR u 16 (SV.int IntKind.i64 (↑p : Int) :: (SV.int IntKind.i64 (IntKind.wrap IntKind.i64 ((↑p : Int) + (1 : Int))) :: (SV.tuple [SV.agg [SV.int IntKind.i64 (pGet pt (↑p : Int)).1, SV.int IntKind.i64 (pGet pt (↑p : Int)).2, SV.str (pGet pt (↑p : Int)).3, SV.bool (pGet pt (↑p : Int)).4, SV.int IntKind.i64 (pGet pt (↑p : Int)).5, SV.str (pGet pt (↑p : Int)).6], SV.bool (pHas pt (↑p : Int))] :: (SV.ptr 4 bk 0 :: (SV.ptr 2 bp 0 :: (SV.int IntKind.i64 (↑p : Int) :: (SV.tuple [SV.agg [SV.int IntKind.i64 (pGet pt (↑p : Int)).1, SV.int IntKind.i64 (pGet pt (↑p : Int)).2, SV.str (pGet pt (↑p : Int)).3, SV.bool (pGet pt (↑p : Int)).4, SV.int IntKind.i64 (pGet pt (↑p : Int)).5, SV.str (pGet pt (↑p : Int)).6], SV.bool (pHas pt (↑p : Int))] :: (SV.agg [SV.int IntKind.i64 (pGet pt (↑p : Int)).1, SV.int IntKind.i64 (pGet pt (↑p : Int)).2, SV.str (pGet pt (↑p : Int)).3, SV.bool (pGet pt (↑p : Int)).4, SV.int IntKind.i64 (pGet pt (↑p : Int)).5, SV.str (pGet pt (↑p : Int)).6] :: (SV.bool (pHas pt (↑p : Int)) :: ((SV.tuple [SV.str (match mget gr.6 (Key.i IntKind.i64 (↑p : Int)) with | some x => x | none => ByteArray.mk #[]), SV.bool (Option.isSome (mget gr.6 (Key.i IntKind.i64 (↑p : Int))))]) :: (SV.ptr 4 bk 0 :: (SV.ptr 3 bg 0 :: (SV.int IntKind.i64 (↑p : Int) :: ((SV.tuple [SV.str (match mget gr.6 (Key.i IntKind.i64 (↑p : Int)) with | some x => x | none => ByteArray.mk #[]), SV.bool (Option.isSome (mget gr.6 (Key.i IntKind.i64 (↑p : Int))))]) :: ((SV.str (match mget gr.6 (Key.i IntKind.i64 (↑p : Int)) with | some x => x | none => ByteArray.mk #[])) :: (SV.bool (Option.isSome (mget gr.6 (Key.i IntKind.i64 (↑p : Int)))) :: (SV.bool (Option.isSome (mget gr.6 (Key.i IntKind.i64 (↑p : Int)))) :: (SV.bool (pHas pt (↑p : Int)) :: (SV.bool false :: (rawE (SV.bool false :: ((SV.bool !Option.isSome (mget gr.6 (Key.i IntKind.i64 (↑p : Int))) == false) :: (SV.bool false :: (SV.bool (Option.isSome (mget gr.6 (Key.i IntKind.i64 (↑p : Int)))) :: (SV.bool false :: (rawE (SV.bool false :: (SV.bool false :: (SV.bool true :: (SV.int IntKind.i64 lives :: (SV.int IntKind.i64 (IntKind.wrap IntKind.i64 (lives + (1 : Int))) :: (rawR u 148 [] 16)))))) 4)))))) 3)))))))))))))))))))) 96)))))))))))))))))
                     [Ent.mk (Loc.sl ao cap) (SObj.roL 1 encU8 bs (0 : Int)),
                      Ent.mk (Loc.sl (some (Addr.mk bn 0 (@none Nat))) 3)
                       (SObj.vecL (26 : TypeId) 1 encS [ByteArray.mk #[(97 : UInt8)], ByteArray.mk #[(98 : UInt8)], ByteArray.mk #[(99 : UInt8)]] ByteArray.empty),
                      pkA bp ptE pt, pkA bg grpE gr,
                      Ent.mk (Loc.blk bk)
                       (SObj.cells [SV.ptr 2 bp 0, SV.ptr 3 bg 0, SV.raw v2, SV.raw v3, SV.int IntKind.i64 m, SV.int IntKind.i64 w]
                        (96 : TypeId)),
                      Ent.mk (Loc.blk b)
                       (SObj.cells
                        [SV.int IntKind.i64 (pGet pt (↑p : Int)).1, SV.int IntKind.i64 (pGet pt (↑p : Int)).2, SV.str (pGet pt (↑p : Int)).3, SV.bool (pGet pt (↑p : Int)).4,
                         SV.int IntKind.i64 (pGet pt (↑p : Int)).5, SV.str (pGet pt (↑p : Int)).6]
                        38)])
                  | false =>
                   K
                    (Frm.loop J1 ::
                     Frm.blk 5 ::
                      frm [J0] (bodyOf Tryz.f3)
                       [1, 1, 1, 1, 1, 1, 1, 0, 1, 0, 0, 1, 0, 0,
                        1, 1, 1, 1, 1, 1]
                       [])
                    (Sy.mk (SV.vec 0 ao (List.length bs) cap :: (SV.raw (u 1) :: (SV.raw (u 2) :: (SV.ptr 4 bk 0 :: (SV.ptr 1 bn 0 :: (SV.raw (u 5) :: (SV.int IntKind.i64 last :: (SV.int IntKind.i64 (↑i : Int) :: (SV.raw (u 8) :: (SV.raw (u 9) :: (SV.int IntKind.i64 lives :: (SV.int IntKind.i64 (IntKind.wrap IntKind.i64 ((↑p : Int) + (1 : Int))) :: (SV.ptr 5 b 0 :: (SV.bool (pHas pt (↑p : Int)) :: ((SV.str (match mget gr.6 (Key.i IntKind.i64 (↑p : Int)) with | some x => x | none => ByteArray.mk #[])) :: (SV.bool (Option.isSome (mget gr.6 (Key.i IntKind.i64 (↑p : Int)))) :: (rawR u 16 (SV.int IntKind.i64 (↑p : Int) :: (SV.int IntKind.i64 (IntKind.wrap IntKind.i64 ((↑p : Int) + (1 : Int))) :: (SV.tuple [SV.agg [SV.int IntKind.i64 (pGet pt (↑p : Int)).1, SV.int IntKind.i64 (pGet pt (↑p : Int)).2, SV.str (pGet pt (↑p : Int)).3, SV.bool (pGet pt (↑p : Int)).4, SV.int IntKind.i64 (pGet pt (↑p : Int)).5, SV.str (pGet pt (↑p : Int)).6], SV.bool (pHas pt (↑p : Int))] :: (SV.ptr 4 bk 0 :: (SV.ptr 2 bp 0 :: (SV.int IntKind.i64 (↑p : Int) :: (SV.tuple [SV.agg [SV.int IntKind.i64 (pGet pt (↑p : Int)).1, SV.int IntKind.i64 (pGet pt (↑p : Int)).2, SV.str (pGet pt (↑p : Int)).3, SV.bool (pGet pt (↑p : Int)).4, SV.int IntKind.i64 (pGet pt (↑p : Int)).5, SV.str (pGet pt (↑p : Int)).6], SV.bool (pHas pt (↑p : Int))] :: (SV.agg [SV.int IntKind.i64 (pGet pt (↑p : Int)).1, SV.int IntKind.i64 (pGet pt (↑p : Int)).2, SV.str (pGet pt (↑p : Int)).3, SV.bool (pGet pt (↑p : Int)).4, SV.int IntKind.i64 (pGet pt (↑p : Int)).5, SV.str (pGet pt (↑p : Int)).6] :: (SV.bool (pHas pt (↑p : Int)) :: ((SV.tuple [SV.str (match mget gr.6 (Key.i IntKind.i64 (↑p : Int)) with | some x => x | none => ByteArray.mk #[]), SV.bool (Option.isSome (mget gr.6 (Key.i IntKind.i64 (↑p : Int))))]) :: (SV.ptr 4 bk 0 :: (SV.ptr 3 bg 0 :: (SV.int IntKind.i64 (↑p : Int) :: ((SV.tuple [SV.str (match mget gr.6 (Key.i IntKind.i64 (↑p : Int)) with | some x => x | none => ByteArray.mk #[]), SV.bool (Option.isSome (mget gr.6 (Key.i IntKind.i64 (↑p : Int))))]) :: ((SV.str (match mget gr.6 (Key.i IntKind.i64 (↑p : Int)) with | some x => x | none => ByteArray.mk #[])) :: (SV.bool (Option.isSome (mget gr.6 (Key.i IntKind.i64 (↑p : Int)))) :: (SV.bool (Option.isSome (mget gr.6 (Key.i IntKind.i64 (↑p : Int)))) :: (SV.bool (pHas pt (↑p : Int)) :: (SV.bool false :: (rawE (SV.bool false :: ((SV.bool !Option.isSome (mget gr.6 (Key.i IntKind.i64 (↑p : Int))) == false) :: (SV.bool false :: (SV.bool (Option.isSome (mget gr.6 (Key.i IntKind.i64 (↑p : Int)))) :: (SV.bool false :: (rawE (SV.bool false :: (SV.bool false :: (SV.bool false :: (rawR u 146 [] 18)))) 4)))))) 3)))))))))))))))))))) 96)))))))))))))))))
                     [Ent.mk (Loc.sl ao cap) (SObj.roL 1 encU8 bs (0 : Int)),
                      Ent.mk (Loc.sl (some (Addr.mk bn 0 (@none Nat))) 3)
                       (SObj.vecL (26 : TypeId) 1 encS [ByteArray.mk #[(97 : UInt8)], ByteArray.mk #[(98 : UInt8)], ByteArray.mk #[(99 : UInt8)]] ByteArray.empty),
                      pkA bp ptE pt, pkA bg grpE gr,
                      Ent.mk (Loc.blk bk)
                       (SObj.cells [SV.ptr 2 bp 0, SV.ptr 3 bg 0, SV.raw v2, SV.raw v3, SV.int IntKind.i64 m, SV.int IntKind.i64 w]
                        (96 : TypeId)),
                      Ent.mk (Loc.blk b)
                       (SObj.cells
                        [SV.int IntKind.i64 (pGet pt (↑p : Int)).1, SV.int IntKind.i64 (pGet pt (↑p : Int)).2, SV.str (pGet pt (↑p : Int)).3, SV.bool (pGet pt (↑p : Int)).4,
                         SV.int IntKind.i64 (pGet pt (↑p : Int)).5, SV.str (pGet pt (↑p : Int)).6]
                        38)])) := by kernel_rfl


theorem kh_43 (K : List Frm → Sy → Prop) (N : List Ent → SV → Prop) (J0 : Act → World → Prop) (ao : Option Addr) (cap : Nat) (bs : List Int) (bn bk bp bg : Nat) (pt : PT) (gr : Grp) (v2 v3 : Value) (m w : Int) (last : Int) (i : Nat) (lives : Int) (u : Nat → Value) : (run Tryz.prog khT true [100045, 200005] K (retP Tryz.prog Tryz.f3.results.toList N) 3000 (frmR [J0] (bodyOf Tryz.f3) 43) ⟨mkT u 164 0 [(0, .vec 0 ao bs.length cap), (3, .ptr 4 bk 0), (4, .ptr 1 bn 0), (6, .int .i64 last), (7, .int .i64 (i : Int)), (10, .int .i64 lives)], [⟨.sl ao cap, .roL 1 encU8 bs 0⟩, ⟨.sl (some ⟨bn, 0, none⟩) 3, .vecL 26 1 encS names3 ByteArray.empty⟩, pkA bp ptE (pt), pkA bg grpE (gr), ⟨.blk bk, .cells [.ptr 2 bp 0, .ptr 3 bg 0, .raw v2, .raw v3, .int .i64 m, .int .i64 w] 96⟩]⟩) = (
(some (Addr.mk bn 0 (@none Nat)) = some (Addr.mk bn 0 (@none Nat)) ∧ 0 = 0 ∧ 3 = 3 ∧ (0 : Int) ≤ (0 : Int) ∧ (0 : Int) < (↑3 : Int)) ∧
 (bn = Addr.blkD (some (Addr.mk bn 0 (@none Nat))) ∧ 0 = Addr.offD (some (Addr.mk bn 0 (@none Nat))) ∧ 1 = 1 ∧ 0 < 3) ∧
  true = true ∧
   bk = bk ∧
    (Ent.mk (Loc.sl ao cap) (SObj.roL 1 encU8 bs (0 : Int)) = Ent.mk (Loc.sl ao cap) (SObj.roL 1 encU8 bs (0 : Int)) ∧
     Ent.mk (Loc.sl (some (Addr.mk bn 0 (@none Nat))) 3)
      (SObj.vecL (26 : TypeId) 1 encS [ByteArray.mk #[(97 : UInt8)], ByteArray.mk #[(98 : UInt8)], ByteArray.mk #[(99 : UInt8)]] ByteArray.empty) =
      Ent.mk (Loc.sl (some (Addr.mk bn 0 (@none Nat))) 3)
       (SObj.vecL (26 : TypeId) 1 encS [ByteArray.mk #[(97 : UInt8)], ByteArray.mk #[(98 : UInt8)], ByteArray.mk #[(99 : UInt8)]] ByteArray.empty) ∧
      pkA bp ptE pt = pkA bp ptE pt ∧
       pkA bg grpE gr = pkA bg grpE gr ∧
        Ent.mk (Loc.blk bk) (SObj.cells [SV.ptr 2 bp 0, SV.ptr 3 bg 0, SV.raw v2, SV.raw v3, SV.int IntKind.i64 m, SV.int IntKind.i64 w] (96 : TypeId)) =
         Ent.mk (Loc.blk bk) (SObj.cells [SV.ptr 2 bp 0, SV.ptr 3 bg 0, SV.raw v2, SV.raw v3, SV.int IntKind.i64 m, SV.int IntKind.i64 w] (96 : TypeId)) ∧
         True) ∧
     true = true ∧
      bg = bg ∧
       ∃ (h : Grp = Grp),
        AdtIs (fun (s : Grp) (b : Nat) ↦ packs (grpE s b)) grpE ∧
         memGOk (cast h gr) (List.getD [ByteArray.mk #[(97 : UInt8)], ByteArray.mk #[(98 : UInt8)], ByteArray.mk #[(99 : UInt8)]] 0 ByteArray.empty) ∧
          ∀ (ao_1 : Option Addr) (cap_1 : Nat),
           (Ent.mk (Loc.sl ao cap) (SObj.roL 1 encU8 bs (0 : Int)) = Ent.mk (Loc.sl ao cap) (SObj.roL 1 encU8 bs (0 : Int)) ∧
            Ent.mk (Loc.sl (some (Addr.mk bn 0 (@none Nat))) 3)
             (SObj.vecL (26 : TypeId) 1 encS [ByteArray.mk #[(97 : UInt8)], ByteArray.mk #[(98 : UInt8)], ByteArray.mk #[(99 : UInt8)]] ByteArray.empty) =
             Ent.mk (Loc.sl (some (Addr.mk bn 0 (@none Nat))) 3)
              (SObj.vecL (26 : TypeId) 1 encS [ByteArray.mk #[(97 : UInt8)], ByteArray.mk #[(98 : UInt8)], ByteArray.mk #[(99 : UInt8)]] ByteArray.empty) ∧
             pkA bp ptE pt = pkA bp ptE pt ∧
              pkA bg grpE gr = pkA bg grpE gr ∧
               Ent.mk (Loc.blk bk)
                (SObj.cells [SV.ptr 2 bp 0, SV.ptr 3 bg 0, SV.raw v2, SV.raw v3, SV.int IntKind.i64 m, SV.int IntKind.i64 w] (96 : TypeId)) =
                Ent.mk (Loc.blk bk)
                 (SObj.cells [SV.ptr 2 bp 0, SV.ptr 3 bg 0, SV.raw v2, SV.raw v3, SV.int IntKind.i64 m, SV.int IntKind.i64 w] (96 : TypeId)) ∧
                True) ∧
            (some (Addr.mk bn 0 (@none Nat)) = some (Addr.mk bn 0 (@none Nat)) ∧
             0 = 0 ∧ 3 = 3 ∧ (0 : Int) ≤ (1 : Int) ∧ (1 : Int) < (↑3 : Int)) ∧
             (bn = Addr.blkD (some (Addr.mk bn 0 (@none Nat))) ∧ 0 = Addr.offD (some (Addr.mk bn 0 (@none Nat))) ∧ 1 = 1 ∧ 1 < 3) ∧
              true = true ∧
               bk = bk ∧
                (Ent.mk (Loc.sl ao cap) (SObj.roL 1 encU8 bs (0 : Int)) = Ent.mk (Loc.sl ao cap) (SObj.roL 1 encU8 bs (0 : Int)) ∧
                 Ent.mk (Loc.sl (some (Addr.mk bn 0 (@none Nat))) 3)
                  (SObj.vecL (26 : TypeId) 1 encS [ByteArray.mk #[(97 : UInt8)], ByteArray.mk #[(98 : UInt8)], ByteArray.mk #[(99 : UInt8)]] ByteArray.empty) =
                  Ent.mk (Loc.sl (some (Addr.mk bn 0 (@none Nat))) 3)
                   (SObj.vecL (26 : TypeId) 1 encS [ByteArray.mk #[(97 : UInt8)], ByteArray.mk #[(98 : UInt8)], ByteArray.mk #[(99 : UInt8)]] ByteArray.empty) ∧
                  pkA bp ptE pt = pkA bp ptE pt ∧
                   pkA bg grpE gr = pkA bg grpE gr ∧
                    Ent.mk (Loc.blk bk)
                     (SObj.cells [SV.ptr 2 bp 0, SV.ptr 3 bg 0, SV.raw v2, SV.raw v3, SV.int IntKind.i64 m, SV.int IntKind.i64 w]
                      (96 : TypeId)) =
                     Ent.mk (Loc.blk bk)
                      (SObj.cells [SV.ptr 2 bp 0, SV.ptr 3 bg 0, SV.raw v2, SV.raw v3, SV.int IntKind.i64 m, SV.int IntKind.i64 w]
                       (96 : TypeId)) ∧
                     True) ∧
                 true = true ∧
                  bg = bg ∧
                   ∃ (h : Grp = Grp),
                    AdtIs (fun (s : Grp) (b : Nat) ↦ packs (grpE s b)) grpE ∧
                     memGOk (cast h gr) (List.getD [ByteArray.mk #[(97 : UInt8)], ByteArray.mk #[(98 : UInt8)], ByteArray.mk #[(99 : UInt8)]] 1 ByteArray.empty) ∧
                      ∀ (ao_2 : Option Addr) (cap_2 : Nat),
                       (Ent.mk (Loc.sl ao cap) (SObj.roL 1 encU8 bs (0 : Int)) = Ent.mk (Loc.sl ao cap) (SObj.roL 1 encU8 bs (0 : Int)) ∧
                        Ent.mk (Loc.sl (some (Addr.mk bn 0 (@none Nat))) 3)
                         (SObj.vecL (26 : TypeId) 1 encS [ByteArray.mk #[(97 : UInt8)], ByteArray.mk #[(98 : UInt8)], ByteArray.mk #[(99 : UInt8)]]
                          ByteArray.empty) =
                         Ent.mk (Loc.sl (some (Addr.mk bn 0 (@none Nat))) 3)
                          (SObj.vecL (26 : TypeId) 1 encS [ByteArray.mk #[(97 : UInt8)], ByteArray.mk #[(98 : UInt8)], ByteArray.mk #[(99 : UInt8)]]
                           ByteArray.empty) ∧
                         pkA bp ptE pt = pkA bp ptE pt ∧
                          pkA bg grpE gr = pkA bg grpE gr ∧
                           Ent.mk (Loc.blk bk)
                            (SObj.cells
                             [SV.ptr 2 bp 0, SV.ptr 3 bg 0, SV.raw v2, SV.raw v3, SV.int IntKind.i64 m, SV.int IntKind.i64 w]
                             (96 : TypeId)) =
                            Ent.mk (Loc.blk bk)
                             (SObj.cells
                              [SV.ptr 2 bp 0, SV.ptr 3 bg 0, SV.raw v2, SV.raw v3, SV.int IntKind.i64 m, SV.int IntKind.i64 w]
                              (96 : TypeId)) ∧
                            True) ∧
                        (some (Addr.mk bn 0 (@none Nat)) = some (Addr.mk bn 0 (@none Nat)) ∧
                         0 = 0 ∧ 3 = 3 ∧ (0 : Int) ≤ (2 : Int) ∧ (2 : Int) < (↑3 : Int)) ∧
                         (bn = Addr.blkD (some (Addr.mk bn 0 (@none Nat))) ∧
                          0 = Addr.offD (some (Addr.mk bn 0 (@none Nat))) ∧ 1 = 1 ∧ 2 < 3) ∧
                          true = true ∧
                           bk = bk ∧
                            (Ent.mk (Loc.sl ao cap) (SObj.roL 1 encU8 bs (0 : Int)) = Ent.mk (Loc.sl ao cap) (SObj.roL 1 encU8 bs (0 : Int)) ∧
                             Ent.mk (Loc.sl (some (Addr.mk bn 0 (@none Nat))) 3)
                              (SObj.vecL (26 : TypeId) 1 encS [ByteArray.mk #[(97 : UInt8)], ByteArray.mk #[(98 : UInt8)], ByteArray.mk #[(99 : UInt8)]]
                               ByteArray.empty) =
                              Ent.mk (Loc.sl (some (Addr.mk bn 0 (@none Nat))) 3)
                               (SObj.vecL (26 : TypeId) 1 encS [ByteArray.mk #[(97 : UInt8)], ByteArray.mk #[(98 : UInt8)], ByteArray.mk #[(99 : UInt8)]]
                                ByteArray.empty) ∧
                              pkA bp ptE pt = pkA bp ptE pt ∧
                               pkA bg grpE gr = pkA bg grpE gr ∧
                                Ent.mk (Loc.blk bk)
                                 (SObj.cells
                                  [SV.ptr 2 bp 0, SV.ptr 3 bg 0, SV.raw v2, SV.raw v3, SV.int IntKind.i64 m,
                                   SV.int IntKind.i64 w]
                                  (96 : TypeId)) =
                                 Ent.mk (Loc.blk bk)
                                  (SObj.cells
                                   [SV.ptr 2 bp 0, SV.ptr 3 bg 0, SV.raw v2, SV.raw v3, SV.int IntKind.i64 m,
                                    SV.int IntKind.i64 w]
                                   (96 : TypeId)) ∧
                                 True) ∧
                             true = true ∧
                              bg = bg ∧
                               ∃ (h : Grp = Grp),
                                AdtIs (fun (s : Grp) (b : Nat) ↦ packs (grpE s b)) grpE ∧
                                 memGOk (cast h gr)
                                  (List.getD [ByteArray.mk #[(97 : UInt8)], ByteArray.mk #[(98 : UInt8)], ByteArray.mk #[(99 : UInt8)]] 2 ByteArray.empty) ∧
                                  ∀ (ao_3 : Option Addr) (cap_3 : Nat),
                                   (Ent.mk (Loc.sl ao cap) (SObj.roL 1 encU8 bs (0 : Int)) = Ent.mk (Loc.sl ao cap) (SObj.roL 1 encU8 bs (0 : Int)) ∧
                                    Ent.mk (Loc.sl (some (Addr.mk bn 0 (@none Nat))) 3)
                                     (SObj.vecL (26 : TypeId) 1 encS
                                      [ByteArray.mk #[(97 : UInt8)], ByteArray.mk #[(98 : UInt8)], ByteArray.mk #[(99 : UInt8)]] ByteArray.empty) =
                                     Ent.mk (Loc.sl (some (Addr.mk bn 0 (@none Nat))) 3)
                                      (SObj.vecL (26 : TypeId) 1 encS
                                       [ByteArray.mk #[(97 : UInt8)], ByteArray.mk #[(98 : UInt8)], ByteArray.mk #[(99 : UInt8)]] ByteArray.empty) ∧
                                     pkA bp ptE pt = pkA bp ptE pt ∧
                                      pkA bg grpE gr = pkA bg grpE gr ∧
                                       Ent.mk (Loc.blk bk)
                                        (SObj.cells
                                         [SV.ptr 2 bp 0, SV.ptr 3 bg 0, SV.raw v2, SV.raw v3, SV.int IntKind.i64 m,
                                          SV.int IntKind.i64 w]
                                         (96 : TypeId)) =
                                        Ent.mk (Loc.blk bk)
                                         (SObj.cells
                                          [SV.ptr 2 bp 0, SV.ptr 3 bg 0, SV.raw v2, SV.raw v3, SV.int IntKind.i64 m,
                                           SV.int IntKind.i64 w]
                                          (96 : TypeId)) ∧
                                        True) ∧
                                    match
                                     IntKind.wrap IntKind.i64
                                      (IntKind.wrap IntKind.i64
                                       (IntKind.wrap IntKind.i64
                                        ((0 : Int) +
                                         (↑(List.length
                                          (memQ gr
                                           (List.getD [ByteArray.mk #[(97 : UInt8)], ByteArray.mk #[(98 : UInt8)], ByteArray.mk #[(99 : UInt8)]]
                                            0 ByteArray.empty))) :
                                          Int)) +
                                        (↑(List.length
                                         (memQ gr
                                          (List.getD [ByteArray.mk #[(97 : UInt8)], ByteArray.mk #[(98 : UInt8)], ByteArray.mk #[(99 : UInt8)]]
                                           1 ByteArray.empty))) :
                                         Int)) +
                                       (↑(List.length
                                        (memQ gr
                                         (List.getD [ByteArray.mk #[(97 : UInt8)], ByteArray.mk #[(98 : UInt8)], ByteArray.mk #[(99 : UInt8)]] 2
                                          ByteArray.empty))) :
                                        Int)) !=
                                      lives with
                                    | true =>
                                     N
                                      [Ent.mk (Loc.sl ao cap) (SObj.roL 1 encU8 bs (0 : Int)),
                                       Ent.mk (Loc.sl (some (Addr.mk bn 0 (@none Nat))) 3)
                                        (SObj.vecL (26 : TypeId) 1 encS
                                         [ByteArray.mk #[(97 : UInt8)], ByteArray.mk #[(98 : UInt8)], ByteArray.mk #[(99 : UInt8)]] ByteArray.empty),
                                       pkA bp ptE pt, pkA bg grpE gr,
                                       Ent.mk (Loc.blk bk)
                                        (SObj.cells
                                         [SV.ptr 2 bp 0, SV.ptr 3 bg 0, SV.raw v2, SV.raw v3, SV.int IntKind.i64 m,
                                          SV.int IntKind.i64 w]
                                         (96 : TypeId)),
                                       Ent.mk (Loc.sl ao_1 cap_1)
                                        (SObj.vecL (3 : TypeId) 1 encI1
                                         (memQ gr
                                          (List.getD [ByteArray.mk #[(97 : UInt8)], ByteArray.mk #[(98 : UInt8)], ByteArray.mk #[(99 : UInt8)]] 0
                                           ByteArray.empty))
                                         (0 : Int)),
                                       Ent.mk (Loc.sl ao_2 cap_2)
                                        (SObj.vecL (3 : TypeId) 1 encI1
                                         (memQ gr
                                          (List.getD [ByteArray.mk #[(97 : UInt8)], ByteArray.mk #[(98 : UInt8)], ByteArray.mk #[(99 : UInt8)]] 1
                                           ByteArray.empty))
                                         (0 : Int)),
                                       Ent.mk (Loc.sl ao_3 cap_3)
                                        (SObj.vecL (3 : TypeId) 1 encI1
                                         (memQ gr
                                          (List.getD [ByteArray.mk #[(97 : UInt8)], ByteArray.mk #[(98 : UInt8)], ByteArray.mk #[(99 : UInt8)]] 2
                                           ByteArray.empty))
                                         (0 : Int))]
                                      (SV.bool false)
                                    | false =>
                                     K
                                      (Frm.loop J0 ::
                                       Frm.blk 2 ::
                                        frm [] (bodyOf Tryz.f3) [1, 1, 1, 1, 1, 1, 1, 1] [])
                                      (Sy.mk (SV.vec 0 ao (List.length bs) cap :: (SV.raw (u 1) :: (SV.raw (u 2) :: (SV.ptr 4 bk 0 :: (SV.ptr 1 bn 0 :: (SV.raw (u 5) :: (SV.int IntKind.i64 last :: (SV.int IntKind.i64 (IntKind.wrap IntKind.i64 ((↑i : Int) + (1 : Int))) :: (SV.raw (u 8) :: (SV.raw (u 9) :: (SV.int IntKind.i64 lives :: (rawR u 11 (SV.int IntKind.i64 (IntKind.wrap IntKind.i64 (IntKind.wrap IntKind.i64 (IntKind.wrap IntKind.i64 ((0 : Int) + (↑(List.length (memQ gr (List.getD [ByteArray.mk #[(97 : UInt8)], ByteArray.mk #[(98 : UInt8)], ByteArray.mk #[(99 : UInt8)]] 0 ByteArray.empty))) : Int)) + (↑(List.length (memQ gr (List.getD [ByteArray.mk #[(97 : UInt8)], ByteArray.mk #[(98 : UInt8)], ByteArray.mk #[(99 : UInt8)]] 1 ByteArray.empty))) : Int)) + (↑(List.length (memQ gr (List.getD [ByteArray.mk #[(97 : UInt8)], ByteArray.mk #[(98 : UInt8)], ByteArray.mk #[(99 : UInt8)]] 2 ByteArray.empty))) : Int))) :: (SV.int IntKind.i64 (3 : Int) :: (rawR u 18 (SV.int IntKind.i64 (↑i : Int) :: (SV.int IntKind.i64 (IntKind.wrap IntKind.i64 ((↑i : Int) + (1 : Int))) :: (rawR u 42 (SV.int IntKind.i64 (3 : Int) :: (SV.bool false :: (SV.int IntKind.i64 (2 : Int) :: (SV.int IntKind.i64 (3 : Int) :: (SV.int IntKind.i64 (IntKind.wrap IntKind.i64 (IntKind.wrap IntKind.i64 ((0 : Int) + (↑(List.length (memQ gr (List.getD [ByteArray.mk #[(97 : UInt8)], ByteArray.mk #[(98 : UInt8)], ByteArray.mk #[(99 : UInt8)]] 0 ByteArray.empty))) : Int)) + (↑(List.length (memQ gr (List.getD [ByteArray.mk #[(97 : UInt8)], ByteArray.mk #[(98 : UInt8)], ByteArray.mk #[(99 : UInt8)]] 1 ByteArray.empty))) : Int))) :: (SV.ptr 4 bk 0 :: (SV.ptr 3 bg 0 :: (SV.int IntKind.i64 (2 : Int) :: (SV.eptr 1 bn 0 1 2 0 :: (SV.str (List.getD [ByteArray.mk #[(97 : UInt8)], ByteArray.mk #[(98 : UInt8)], ByteArray.mk #[(99 : UInt8)]] 2 ByteArray.empty) :: (SV.vec 7 ao_3 (List.length (memQ gr (List.getD [ByteArray.mk #[(97 : UInt8)], ByteArray.mk #[(98 : UInt8)], ByteArray.mk #[(99 : UInt8)]] 2 ByteArray.empty))) cap_3 :: (SV.int IntKind.i64 (↑(List.length (memQ gr (List.getD [ByteArray.mk #[(97 : UInt8)], ByteArray.mk #[(98 : UInt8)], ByteArray.mk #[(99 : UInt8)]] 2 ByteArray.empty))) : Int) :: (SV.int IntKind.i64 (IntKind.wrap IntKind.i64 (IntKind.wrap IntKind.i64 (IntKind.wrap IntKind.i64 ((0 : Int) + (↑(List.length (memQ gr (List.getD [ByteArray.mk #[(97 : UInt8)], ByteArray.mk #[(98 : UInt8)], ByteArray.mk #[(99 : UInt8)]] 0 ByteArray.empty))) : Int)) + (↑(List.length (memQ gr (List.getD [ByteArray.mk #[(97 : UInt8)], ByteArray.mk #[(98 : UInt8)], ByteArray.mk #[(99 : UInt8)]] 1 ByteArray.empty))) : Int)) + (↑(List.length (memQ gr (List.getD [ByteArray.mk #[(97 : UInt8)], ByteArray.mk #[(98 : UInt8)], ByteArray.mk #[(99 : UInt8)]] 2 ByteArray.empty))) : Int))) :: (SV.int IntKind.i64 (IntKind.wrap IntKind.i64 (IntKind.wrap IntKind.i64 (IntKind.wrap IntKind.i64 ((0 : Int) + (↑(List.length (memQ gr (List.getD [ByteArray.mk #[(97 : UInt8)], ByteArray.mk #[(98 : UInt8)], ByteArray.mk #[(99 : UInt8)]] 0 ByteArray.empty))) : Int)) + (↑(List.length (memQ gr (List.getD [ByteArray.mk #[(97 : UInt8)], ByteArray.mk #[(98 : UInt8)], ByteArray.mk #[(99 : UInt8)]] 1 ByteArray.empty))) : Int)) + (↑(List.length (memQ gr (List.getD [ByteArray.mk #[(97 : UInt8)], ByteArray.mk #[(98 : UInt8)], ByteArray.mk #[(99 : UInt8)]] 2 ByteArray.empty))) : Int))) :: (SV.int IntKind.i64 lives :: (SV.bool false :: [])))))))))))))))) 106))) 22))) 5))))))))))))
                                       [Ent.mk (Loc.sl ao cap) (SObj.roL 1 encU8 bs (0 : Int)),
                                        Ent.mk (Loc.sl (some (Addr.mk bn 0 (@none Nat))) 3)
                                         (SObj.vecL (26 : TypeId) 1 encS
                                          [ByteArray.mk #[(97 : UInt8)], ByteArray.mk #[(98 : UInt8)], ByteArray.mk #[(99 : UInt8)]] ByteArray.empty),
                                        pkA bp ptE pt, pkA bg grpE gr,
                                        Ent.mk (Loc.blk bk)
                                         (SObj.cells
                                          [SV.ptr 2 bp 0, SV.ptr 3 bg 0, SV.raw v2, SV.raw v3, SV.int IntKind.i64 m,
                                           SV.int IntKind.i64 w]
                                          (96 : TypeId)),
                                        Ent.mk (Loc.sl ao_1 cap_1)
                                         (SObj.vecL (3 : TypeId) 1 encI1
                                          (memQ gr
                                           (List.getD [ByteArray.mk #[(97 : UInt8)], ByteArray.mk #[(98 : UInt8)], ByteArray.mk #[(99 : UInt8)]] 0
                                            ByteArray.empty))
                                          (0 : Int)),
                                        Ent.mk (Loc.sl ao_2 cap_2)
                                         (SObj.vecL (3 : TypeId) 1 encI1
                                          (memQ gr
                                           (List.getD [ByteArray.mk #[(97 : UInt8)], ByteArray.mk #[(98 : UInt8)], ByteArray.mk #[(99 : UInt8)]] 1
                                            ByteArray.empty))
                                          (0 : Int)),
                                        Ent.mk (Loc.sl ao_3 cap_3)
                                         (SObj.vecL (3 : TypeId) 1 encI1
                                          (memQ gr
                                           (List.getD [ByteArray.mk #[(97 : UInt8)], ByteArray.mk #[(98 : UInt8)], ByteArray.mk #[(99 : UInt8)]] 2
                                            ByteArray.empty))
                                          (0 : Int))])) := by kernel_rfl
end Go.Proofs.YtkcmgcoppecfpaaGreat

