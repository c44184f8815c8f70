import Derived.Test.YtihajdkipkfiiaaMgGroupPlays8
import Derived.Test.YtihajdkipkfiiaaMgGroupPlays6
import Derived.Shelf.SlIterI.Nil
import Derived.Shelf.SlIter.Nil
import Derived.Shelf.SortM.Plain
import Derived.Shelf.SortM.SortNone
import Derived.Ground.GgzProg
import Derived.Ground.SlgmProg
import Derived.Shelf.SlGeneric
import Derived.Test.YtihajdkipkfiiaaProg
import Derived.Test.YtihajdkipkfiiaaMgGroupPlays7
/- YtihajdkipkfiiaaGp1Run -/
namespace Go.Proofs.Ytihajdkipkfiiaa
set_option linter.unusedVariables false
open Go Go.RowKit
set_option maxHeartbeats 0
set_option maxRecDepth 100000
set_option linter.unusedVariables false
set_option maxRecDepth 100000

theorem gp_start (K : List Frm → Sy → Prop) (N : List Ent → SV → Prop) (ao : Option Addr) (cap : Nat) (bs : List Step9) : (run Try.prog gpT false [] K (retP Try.prog Try.f11.results.toList N) 900 [.code (bodyOf Try.f11)] ⟨padTo 163 [.vec 0 ao bs.length cap], [⟨.sl ao cap, .roL 3 encStep9 bs Step9.zero⟩]⟩) = (
true = true ∧
 match decide ((↑(List.length bs) : Int) > (120 : Int)) with
 | true => N [Ent.mk (Loc.sl ao cap) (SObj.roL 3 encStep9 bs (Step9.mk (0 : Int) (0 : Int) (ByteArray.mk #[])))] (SV.bool true)
 | false =>
  true = true ∧
   ∀ (b bg bo : Nat),
    (true = true ∧ true = true) ∧
     true = true ∧
      ∀ (b_1 b_2 : Nat),
       (b_2 = b_2 ∧ true = true ∧ 1 = 1 ∧ 1 ≤ 1) ∧
        K (frm [] (bodyOf Try.f11) [1, 1, 1, 1, 0, 1, 0] [])
         (Sy.mk (SV.vec 0 ao (List.length bs) cap :: (SV.raw (Value.tuple #[]) :: (SV.bool false :: (SV.ptr 1 b 0 :: (SV.ptr 3 b_2 0 :: (SV.int IntKind.i64 (0 : Int) :: (rawE (SV.bool true :: (SV.bool false :: (SV.vec 0 ao (List.length bs) cap :: (SV.int IntKind.i64 (↑(List.length bs) : Int) :: (SV.bool false :: (SV.ptr 1 b 0 :: (SV.agg [SV.raw (Value.slice (@none Addr) 0 0), SV.raw (Value.slice (@none Addr) 0 0)] :: (SV.ptr 2 b_1 0 :: (rawE [] 136))))))))) 13)))))))
          [Ent.mk (Loc.sl ao cap) (SObj.roL 3 encStep9 bs (Step9.mk (0 : Int) (0 : Int) (ByteArray.mk #[]))), pkA b grpE (Grp.mk bg bo (@none Addr) 0 [] [] []),
           Ent.mk (Loc.blk b_1) (SObj.cells [SV.raw (Value.slice (@none Addr) 0 0), SV.raw (Value.slice (@none Addr) 0 0)] 103),
           Ent.mk (Loc.blk b_2) (SObj.cells [SV.ptr 2 b_1 0] 100)])) := by kernel_rfl


theorem gp_l1 (K : List Frm → Sy → Prop) (N : List Ent → SV → Prop) (J : Act → World → Prop) (ao : Option Addr) (cap : Nat) (bs : List Step9) (bt br bc : Nat) (s : Grp) (r : RG) (i : Nat) (u : Nat → Value) : (run Try.prog gpT false [13] K (retP Try.prog Try.f11.results.toList N) 900 (frm [J] (bodyOf Try.f11) [1, 1, 1, 1, 0, 1, 0, 0] []) ⟨mkT u 163 0 [(0, .vec 0 ao bs.length cap), (3, .ptr 2 bt 0), (4, .ptr 1 bc 0), (5, .int .i64 (i : Int))], [⟨.sl ao cap, .roL 3 encStep9 bs Step9.zero⟩, ⟨.blk bc, .cells [.ptr 3 br 0] 100⟩, pkA bt grpE (s), pkA br rgE (r)]⟩) = (
match decide ((↑i : Int) < (↑(List.length bs) : Int)) with
| true =>
 (ao = ao ∧ cap = cap ∧ List.length bs = List.length bs ∧ (0 : Int) ≤ (↑i : Int) ∧ (↑i : Int) < (↑(List.length bs) : Int)) ∧
  (Addr.blkD ao = Addr.blkD ao ∧ Addr.offD ao = Addr.offD ao ∧ 3 = 3 ∧ Int.toNat (↑i : Int) < List.length bs ∧ 3 = 3) ∧
   ∀ (b : Nat),
    (b = b ∧ true = true ∧ 3 = 3 ∧ 3 ≤ 3) ∧
     b = b ∧
      match decide ((↑(ByteArray.size (List.getD bs (Int.toNat (↑i : Int)) (Step9.mk (0 : Int) (0 : Int) (ByteArray.mk #[]))).3) : Int) > (100 : Int)) with
      | true =>
       N
        [Ent.mk (Loc.sl ao cap) (SObj.roL 3 encStep9 bs (Step9.mk (0 : Int) (0 : Int) (ByteArray.mk #[]))),
         Ent.mk (Loc.blk bc) (SObj.cells [SV.ptr 3 br 0] (100 : TypeId)), pkA bt grpE s, pkA br rgE r,
         Ent.mk (Loc.blk b)
          (SObj.cells
           [SV.int IntKind.i64 (List.getD bs (Int.toNat (↑i : Int)) (Step9.mk (0 : Int) (0 : Int) (ByteArray.mk #[]))).1,
            SV.int IntKind.i64 (List.getD bs (Int.toNat (↑i : Int)) (Step9.mk (0 : Int) (0 : Int) (ByteArray.mk #[]))).2,
            SV.str (List.getD bs (Int.toNat (↑i : Int)) (Step9.mk (0 : Int) (0 : Int) (ByteArray.mk #[]))).3]
           105)]
        (SV.bool true)
      | false =>
       K (frmR [J] (bodyOf Try.f11) 13)
        (Sy.mk (SV.vec 0 ao (List.length bs) cap :: (SV.raw (u 1) :: (SV.raw (u 2) :: (SV.ptr 2 bt 0 :: (SV.ptr 1 bc 0 :: (SV.int IntKind.i64 (↑i : Int) :: (SV.ptr 4 b 0 :: (SV.int IntKind.i64 (0 : Int) :: (SV.int IntKind.i64 (0 : Int) :: (rawR u 9 (SV.int IntKind.i64 (↑i : Int) :: (SV.vec 0 ao (List.length bs) cap :: (SV.int IntKind.i64 (↑(List.length bs) : Int) :: (SV.bool true :: (SV.raw (u 31) :: (SV.raw (u 32) :: (SV.vec 0 ao (List.length bs) cap :: (SV.int IntKind.i64 (↑i : Int) :: (SV.eptr 0 (Addr.blkD ao) (Addr.offD ao) 3 (Int.toNat (↑i : Int)) 0 :: (SV.agg [SV.int IntKind.i64 (List.getD bs (Int.toNat (↑i : Int)) (Step9.mk (0 : Int) (0 : Int) (ByteArray.mk #[]))).1, SV.int IntKind.i64 (List.getD bs (Int.toNat (↑i : Int)) (Step9.mk (0 : Int) (0 : Int) (ByteArray.mk #[]))).2, SV.str (List.getD bs (Int.toNat (↑i : Int)) (Step9.mk (0 : Int) (0 : Int) (ByteArray.mk #[]))).3] :: (SV.ptr 4 b 2 :: (SV.str (List.getD bs (Int.toNat (↑i : Int)) (Step9.mk (0 : Int) (0 : Int) (ByteArray.mk #[]))).3 :: (SV.int IntKind.i64 (↑(ByteArray.size (List.getD bs (Int.toNat (↑i : Int)) (Step9.mk (0 : Int) (0 : Int) (ByteArray.mk #[]))).3) : Int) :: (SV.bool false :: (rawR u 41 [] 122))))))))))))))) 18))))))))))
         [Ent.mk (Loc.sl ao cap) (SObj.roL 3 encStep9 bs (Step9.mk (0 : Int) (0 : Int) (ByteArray.mk #[]))),
          Ent.mk (Loc.blk bc) (SObj.cells [SV.ptr 3 br 0] (100 : TypeId)), pkA bt grpE s, pkA br rgE r,
          Ent.mk (Loc.blk b)
           (SObj.cells
            [SV.int IntKind.i64 (List.getD bs (Int.toNat (↑i : Int)) (Step9.mk (0 : Int) (0 : Int) (ByteArray.mk #[]))).1,
             SV.int IntKind.i64 (List.getD bs (Int.toNat (↑i : Int)) (Step9.mk (0 : Int) (0 : Int) (ByteArray.mk #[]))).2,
             SV.str (List.getD bs (Int.toNat (↑i : Int)) (Step9.mk (0 : Int) (0 : Int) (ByteArray.mk #[]))).3]
            105)])
| false =>
 N
  [Ent.mk (Loc.sl ao cap) (SObj.roL 3 encStep9 bs (Step9.mk (0 : Int) (0 : Int) (ByteArray.mk #[]))), Ent.mk (Loc.blk bc) (SObj.cells [SV.ptr 3 br 0] (100 : TypeId)),
   pkA bt grpE s, pkA br rgE r]
  (SV.bool true)) := by kernel_rfl


theorem gp_13 (K : List Frm → Sy → Prop) (N : List Ent → SV → Prop) (J0 : Act → World → Prop) (ao : Option Addr) (cap : Nat) (bs : List Step9) (bt br bc : Nat) (s : Grp) (r : RG) (i : Nat) (x : Step9) (b6 : Nat) (u : Nat → Value) : (run Try.prog gpT false [20, 22, 26, 28, 14] K (retP Try.prog Try.f11.results.toList N) 900 (frmR [J0] (bodyOf Try.f11) 13) ⟨mkT u 163 0 [(0, .vec 0 ao bs.length cap), (3, .ptr 3 bt 0), (4, .ptr 1 bc 0), (5, .int .i64 (i : Int)), (6, .ptr 2 b6 0), (7, .int .i64 0), (8, .int .i64 0)], [⟨.sl ao cap, .roL 3 encStep9 bs Step9.zero⟩, ⟨.blk bc, .cells [.ptr 4 br 0] 100⟩, ⟨.blk b6, .cells (encStep9 x) 105⟩, pkA bt grpE (s), pkA br rgE (r)]⟩) = (
b6 = b6 ∧
 match x.1 == (0 : Int) with
 | true =>
  K (frmR [J0] (bodyOf Try.f11) 20)
   (Sy.mk (SV.vec 0 ao (List.length bs) cap :: (SV.raw (u 1) :: (SV.raw (u 2) :: (SV.ptr 3 bt 0 :: (SV.ptr 1 bc 0 :: (SV.int IntKind.i64 (↑i : Int) :: (SV.ptr 2 b6 0 :: (SV.int IntKind.i64 (0 : Int) :: (SV.int IntKind.i64 (0 : Int) :: (rawR u 9 (SV.ptr 2 b6 0 :: (SV.int IntKind.i64 x.1 :: (rawR u 43 (SV.bool true :: ((SV.bool (x.1 == (0 : Int))) :: (rawR u 63 [] 100))) 18))) 32))))))))))
    [Ent.mk (Loc.sl ao cap) (SObj.roL 3 encStep9 bs (Step9.mk (0 : Int) (0 : Int) (ByteArray.mk #[]))), Ent.mk (Loc.blk bc) (SObj.cells [SV.ptr 4 br 0] (100 : TypeId)),
     Ent.mk (Loc.blk b6) (SObj.cells [SV.int IntKind.i64 x.1, SV.int IntKind.i64 x.2, SV.str x.3] (105 : TypeId)), pkA bt grpE s, pkA br rgE r])
 | false =>
  match x.1 == (1 : Int) with
  | true =>
   K (frmR [J0] (bodyOf Try.f11) 20)
    (Sy.mk (SV.vec 0 ao (List.length bs) cap :: (SV.raw (u 1) :: (SV.raw (u 2) :: (SV.ptr 3 bt 0 :: (SV.ptr 1 bc 0 :: (SV.int IntKind.i64 (↑i : Int) :: (SV.ptr 2 b6 0 :: (SV.int IntKind.i64 (0 : Int) :: (SV.int IntKind.i64 (0 : Int) :: (rawR u 9 (SV.ptr 2 b6 0 :: (SV.int IntKind.i64 x.1 :: (rawR u 43 (SV.bool true :: ((SV.bool (x.1 == (0 : Int))) :: ((SV.bool (x.1 == (1 : Int))) :: (rawR u 64 [] 99)))) 18))) 32))))))))))
     [Ent.mk (Loc.sl ao cap) (SObj.roL 3 encStep9 bs (Step9.mk (0 : Int) (0 : Int) (ByteArray.mk #[]))), Ent.mk (Loc.blk bc) (SObj.cells [SV.ptr 4 br 0] (100 : TypeId)),
      Ent.mk (Loc.blk b6) (SObj.cells [SV.int IntKind.i64 x.1, SV.int IntKind.i64 x.2, SV.str x.3] (105 : TypeId)), pkA bt grpE s, pkA br rgE r])
  | false =>
   match x.1 == (2 : Int) with
   | true =>
    K (frmR [J0] (bodyOf Try.f11) 22)
     (Sy.mk (SV.vec 0 ao (List.length bs) cap :: (SV.raw (u 1) :: (SV.raw (u 2) :: (SV.ptr 3 bt 0 :: (SV.ptr 1 bc 0 :: (SV.int IntKind.i64 (↑i : Int) :: (SV.ptr 2 b6 0 :: (SV.int IntKind.i64 (0 : Int) :: (SV.int IntKind.i64 (0 : Int) :: (rawR u 9 (SV.ptr 2 b6 0 :: (SV.int IntKind.i64 x.1 :: (rawR u 43 (SV.bool false :: ((SV.bool (x.1 == (0 : Int))) :: ((SV.bool (x.1 == (1 : Int))) :: (rawR u 64 (SV.bool true :: ((SV.bool (x.1 == (2 : Int))) :: (rawR u 74 [] 89))) 8)))) 18))) 32))))))))))
      [Ent.mk (Loc.sl ao cap) (SObj.roL 3 encStep9 bs (Step9.mk (0 : Int) (0 : Int) (ByteArray.mk #[]))), Ent.mk (Loc.blk bc) (SObj.cells [SV.ptr 4 br 0] (100 : TypeId)),
       Ent.mk (Loc.blk b6) (SObj.cells [SV.int IntKind.i64 x.1, SV.int IntKind.i64 x.2, SV.str x.3] (105 : TypeId)), pkA bt grpE s, pkA br rgE r])
   | false =>
    match x.1 == (3 : Int) with
    | true =>
     K (frmR [J0] (bodyOf Try.f11) 26)
      (Sy.mk (SV.vec 0 ao (List.length bs) cap :: (SV.raw (u 1) :: (SV.raw (u 2) :: (SV.ptr 3 bt 0 :: (SV.ptr 1 bc 0 :: (SV.int IntKind.i64 (↑i : Int) :: (SV.ptr 2 b6 0 :: (SV.int IntKind.i64 (0 : Int) :: (SV.int IntKind.i64 (0 : Int) :: (rawR u 9 (SV.ptr 2 b6 0 :: (SV.int IntKind.i64 x.1 :: (rawR u 43 (SV.bool false :: ((SV.bool (x.1 == (0 : Int))) :: ((SV.bool (x.1 == (1 : Int))) :: (rawR u 64 (SV.bool false :: ((SV.bool (x.1 == (2 : Int))) :: (rawR u 74 (SV.bool true :: ((SV.bool (x.1 == (3 : Int))) :: (rawR u 84 [] 79))) 8))) 8)))) 18))) 32))))))))))
       [Ent.mk (Loc.sl ao cap) (SObj.roL 3 encStep9 bs (Step9.mk (0 : Int) (0 : Int) (ByteArray.mk #[]))),
        Ent.mk (Loc.blk bc) (SObj.cells [SV.ptr 4 br 0] (100 : TypeId)),
        Ent.mk (Loc.blk b6) (SObj.cells [SV.int IntKind.i64 x.1, SV.int IntKind.i64 x.2, SV.str x.3] (105 : TypeId)), pkA bt grpE s, pkA br rgE r])
    | false =>
     match x.1 == (4 : Int) with
     | true =>
      K (frmR [J0] (bodyOf Try.f11) 26)
       (Sy.mk (SV.vec 0 ao (List.length bs) cap :: (SV.raw (u 1) :: (SV.raw (u 2) :: (SV.ptr 3 bt 0 :: (SV.ptr 1 bc 0 :: (SV.int IntKind.i64 (↑i : Int) :: (SV.ptr 2 b6 0 :: (SV.int IntKind.i64 (0 : Int) :: (SV.int IntKind.i64 (0 : Int) :: (rawR u 9 (SV.ptr 2 b6 0 :: (SV.int IntKind.i64 x.1 :: (rawR u 43 (SV.bool false :: ((SV.bool (x.1 == (0 : Int))) :: ((SV.bool (x.1 == (1 : Int))) :: (rawR u 64 (SV.bool false :: ((SV.bool (x.1 == (2 : Int))) :: (rawR u 74 (SV.bool true :: ((SV.bool (x.1 == (3 : Int))) :: ((SV.bool (x.1 == (4 : Int))) :: (rawR u 85 [] 78)))) 8))) 8)))) 18))) 32))))))))))
        [Ent.mk (Loc.sl ao cap) (SObj.roL 3 encStep9 bs (Step9.mk (0 : Int) (0 : Int) (ByteArray.mk #[]))),
         Ent.mk (Loc.blk bc) (SObj.cells [SV.ptr 4 br 0] (100 : TypeId)),
         Ent.mk (Loc.blk b6) (SObj.cells [SV.int IntKind.i64 x.1, SV.int IntKind.i64 x.2, SV.str x.3] (105 : TypeId)), pkA bt grpE s, pkA br rgE r])
     | false =>
      match x.1 == (5 : Int) with
      | true =>
       K (frmR [J0] (bodyOf Try.f11) 26)
        (Sy.mk (SV.vec 0 ao (List.length bs) cap :: (SV.raw (u 1) :: (SV.raw (u 2) :: (SV.ptr 3 bt 0 :: (SV.ptr 1 bc 0 :: (SV.int IntKind.i64 (↑i : Int) :: (SV.ptr 2 b6 0 :: (SV.int IntKind.i64 (0 : Int) :: (SV.int IntKind.i64 (0 : Int) :: (rawR u 9 (SV.ptr 2 b6 0 :: (SV.int IntKind.i64 x.1 :: (rawR u 43 (SV.bool false :: ((SV.bool (x.1 == (0 : Int))) :: ((SV.bool (x.1 == (1 : Int))) :: (rawR u 64 (SV.bool false :: ((SV.bool (x.1 == (2 : Int))) :: (rawR u 74 (SV.bool true :: ((SV.bool (x.1 == (3 : Int))) :: ((SV.bool (x.1 == (4 : Int))) :: ((SV.bool (x.1 == (5 : Int))) :: (rawR u 86 [] 77))))) 8))) 8)))) 18))) 32))))))))))
         [Ent.mk (Loc.sl ao cap) (SObj.roL 3 encStep9 bs (Step9.mk (0 : Int) (0 : Int) (ByteArray.mk #[]))),
          Ent.mk (Loc.blk bc) (SObj.cells [SV.ptr 4 br 0] (100 : TypeId)),
          Ent.mk (Loc.blk b6) (SObj.cells [SV.int IntKind.i64 x.1, SV.int IntKind.i64 x.2, SV.str x.3] (105 : TypeId)), pkA bt grpE s, pkA br rgE r])
      | false =>
       match x.1 == (6 : Int) with
       | true =>
        K (frmR [J0] (bodyOf Try.f11) 28)
         (Sy.mk (SV.vec 0 ao (List.length bs) cap :: (SV.raw (u 1) :: (SV.raw (u 2) :: (SV.ptr 3 bt 0 :: (SV.ptr 1 bc 0 :: (SV.int IntKind.i64 (↑i : Int) :: (SV.ptr 2 b6 0 :: (SV.int IntKind.i64 (0 : Int) :: (SV.int IntKind.i64 (0 : Int) :: (rawR u 9 (SV.ptr 2 b6 0 :: (SV.int IntKind.i64 x.1 :: (rawR u 43 (SV.bool false :: ((SV.bool (x.1 == (0 : Int))) :: ((SV.bool (x.1 == (1 : Int))) :: (rawR u 64 (SV.bool false :: ((SV.bool (x.1 == (2 : Int))) :: (rawR u 74 (SV.bool false :: ((SV.bool (x.1 == (3 : Int))) :: ((SV.bool (x.1 == (4 : Int))) :: ((SV.bool (x.1 == (5 : Int))) :: (rawR u 86 (SV.bool true :: ((SV.bool (x.1 == (6 : Int))) :: (rawR u 100 [] 63))) 12))))) 8))) 8)))) 18))) 32))))))))))
          [Ent.mk (Loc.sl ao cap) (SObj.roL 3 encStep9 bs (Step9.mk (0 : Int) (0 : Int) (ByteArray.mk #[]))),
           Ent.mk (Loc.blk bc) (SObj.cells [SV.ptr 4 br 0] (100 : TypeId)),
           Ent.mk (Loc.blk b6) (SObj.cells [SV.int IntKind.i64 x.1, SV.int IntKind.i64 x.2, SV.str x.3] (105 : TypeId)), pkA bt grpE s, pkA br rgE r])
       | false =>
        K (frmR [J0] (bodyOf Try.f11) 14)
         (Sy.mk (SV.vec 0 ao (List.length bs) cap :: (SV.raw (u 1) :: (SV.raw (u 2) :: (SV.ptr 3 bt 0 :: (SV.ptr 1 bc 0 :: (SV.int IntKind.i64 (↑i : Int) :: (SV.ptr 2 b6 0 :: (SV.int IntKind.i64 (0 : Int) :: (SV.int IntKind.i64 (0 : Int) :: (rawR u 9 (SV.ptr 2 b6 0 :: (SV.int IntKind.i64 x.1 :: (rawR u 43 (SV.bool false :: ((SV.bool (x.1 == (0 : Int))) :: ((SV.bool (x.1 == (1 : Int))) :: (rawR u 64 (SV.bool false :: ((SV.bool (x.1 == (2 : Int))) :: (rawR u 74 (SV.bool false :: ((SV.bool (x.1 == (3 : Int))) :: ((SV.bool (x.1 == (4 : Int))) :: ((SV.bool (x.1 == (5 : Int))) :: (rawR u 86 (SV.bool false :: ((SV.bool (x.1 == (6 : Int))) :: (rawR u 100 [] 63))) 12))))) 8))) 8)))) 18))) 32))))))))))
          [Ent.mk (Loc.sl ao cap) (SObj.roL 3 encStep9 bs (Step9.mk (0 : Int) (0 : Int) (ByteArray.mk #[]))),
           Ent.mk (Loc.blk bc) (SObj.cells [SV.ptr 4 br 0] (100 : TypeId)),
           Ent.mk (Loc.blk b6) (SObj.cells [SV.int IntKind.i64 x.1, SV.int IntKind.i64 x.2, SV.str x.3] (105 : TypeId)), pkA bt grpE s, pkA br rgE r])) := by kernel_rfl


theorem gp_20 (K : List Frm → Sy → Prop) (N : List Ent → SV → Prop) (J0 : Act → World → Prop) (ao : Option Addr) (cap : Nat) (bs : List Step9) (bt br bc : Nat) (s : Grp) (r : RG) (i : Nat) (x : Step9) (b6 : Nat) (u : Nat → Value) : (run Try.prog gpT true [30, 200003] K (retP Try.prog Try.f11.results.toList N) 900 (frmR [J0] (bodyOf Try.f11) 20) ⟨mkT u 163 0 [(0, .vec 0 ao bs.length cap), (3, .ptr 3 bt 0), (4, .ptr 1 bc 0), (5, .int .i64 (i : Int)), (6, .ptr 2 b6 0), (7, .int .i64 0), (8, .int .i64 0)], [⟨.sl ao cap, .roL 3 encStep9 bs Step9.zero⟩, ⟨.blk bc, .cells [.ptr 4 br 0] 100⟩, ⟨.blk b6, .cells (encStep9 x) 105⟩, pkA bt grpE (s), pkA br rgE (r)]⟩) = (
b6 = b6 ∧
 bc = bc ∧
  b6 = b6 ∧
   true = true ∧
    bt = bt ∧
     ∃ (h : Grp = Grp),
      AdtIs (fun (s : Grp) (b : Nat) ↦ packs (grpE s b)) grpE ∧
       ∀ (nb : Nat),
        (Ent.mk (Loc.sl ao cap) (SObj.roL 3 encStep9 bs (Step9.mk (0 : Int) (0 : Int) (ByteArray.mk #[]))) =
         Ent.mk (Loc.sl ao cap) (SObj.roL 3 encStep9 bs (Step9.mk (0 : Int) (0 : Int) (ByteArray.mk #[]))) ∧
         Ent.mk (Loc.blk bc) (SObj.cells [SV.ptr 4 br 0] (100 : TypeId)) = Ent.mk (Loc.blk bc) (SObj.cells [SV.ptr 4 br 0] (100 : TypeId)) ∧
          Ent.mk (Loc.blk b6) (SObj.cells [SV.int IntKind.i64 x.1, SV.int IntKind.i64 x.2, SV.str x.3] (105 : TypeId)) =
           Ent.mk (Loc.blk b6) (SObj.cells [SV.int IntKind.i64 x.1, SV.int IntKind.i64 x.2, SV.str x.3] (105 : TypeId)) ∧
           True) ∧
         true = true ∧
          br = br ∧
           ∃ (h : RG = RG),
            AdtIs (fun (s : RG) (b : Nat) ↦ packs (rgE s b)) rgE ∧
             rOk r ∧
              ∀ (ao_1 : Option Addr) (cap_1 : Nat),
               (Ent.mk (Loc.sl ao cap) (SObj.roL 3 encStep9 bs (Step9.mk (0 : Int) (0 : Int) (ByteArray.mk #[]))) =
                Ent.mk (Loc.sl ao cap) (SObj.roL 3 encStep9 bs (Step9.mk (0 : Int) (0 : Int) (ByteArray.mk #[]))) ∧
                Ent.mk (Loc.blk bc) (SObj.cells [SV.ptr 4 br 0] (100 : TypeId)) = Ent.mk (Loc.blk bc) (SObj.cells [SV.ptr 4 br 0] (100 : TypeId)) ∧
                 Ent.mk (Loc.blk b6) (SObj.cells [SV.int IntKind.i64 x.1, SV.int IntKind.i64 x.2, SV.str x.3] (105 : TypeId)) =
                  Ent.mk (Loc.blk b6) (SObj.cells [SV.int IntKind.i64 x.1, SV.int IntKind.i64 x.2, SV.str x.3] (105 : TypeId)) ∧
                  True) ∧
                K (frmR [J0] (bodyOf Try.f11) 30)
                 (Sy.mk (SV.vec 0 ao (List.length bs) cap :: (SV.raw (u 1) :: (SV.raw (u 2) :: (SV.ptr 3 bt 0 :: (SV.ptr 1 bc 0 :: (SV.int IntKind.i64 (↑i : Int) :: (SV.ptr 2 b6 0 :: (SV.int IntKind.i64 (gMake s x.3 nb).2 :: (SV.int IntKind.i64 (rMake r x.3 ao_1 cap_1).2 :: (rawR u 9 (SV.ptr 3 bt 0 :: (SV.ptr 2 b6 2 :: (SV.str x.3 :: (SV.int IntKind.i64 (gMake s x.3 nb).2 :: (SV.ptr 4 br 0 :: (SV.ptr 2 b6 2 :: (SV.str x.3 :: (SV.int IntKind.i64 (rMake r x.3 ao_1 cap_1).2 :: (rawR u 72 [] 91))))))))) 55))))))))))
                  [Ent.mk (Loc.sl ao cap) (SObj.roL 3 encStep9 bs (Step9.mk (0 : Int) (0 : Int) (ByteArray.mk #[]))),
                   Ent.mk (Loc.blk bc) (SObj.cells [SV.ptr 4 br 0] (100 : TypeId)),
                   Ent.mk (Loc.blk b6) (SObj.cells [SV.int IntKind.i64 x.1, SV.int IntKind.i64 x.2, SV.str x.3] (105 : TypeId)), pkA bt grpE (gMake s x.3 nb).1,
                   pkA br rgE (rMake r x.3 ao_1 cap_1).1])) := by kernel_rfl


theorem gp_22 (K : List Frm → Sy → Prop) (N : List Ent → SV → Prop) (J0 : Act → World → Prop) (ao : Option Addr) (cap : Nat) (bs : List Step9) (bt br bc : Nat) (s : Grp) (r : RG) (i : Nat) (x : Step9) (b6 : Nat) (u : Nat → Value) : (run Try.prog gpT true [30, 200003] K (retP Try.prog Try.f11.results.toList N) 900 (frmR [J0] (bodyOf Try.f11) 22) ⟨mkT u 163 0 [(0, .vec 0 ao bs.length cap), (3, .ptr 3 bt 0), (4, .ptr 1 bc 0), (5, .int .i64 (i : Int)), (6, .ptr 2 b6 0), (7, .int .i64 0), (8, .int .i64 0)], [⟨.sl ao cap, .roL 3 encStep9 bs Step9.zero⟩, ⟨.blk bc, .cells [.ptr 4 br 0] 100⟩, ⟨.blk b6, .cells (encStep9 x) 105⟩, pkA bt grpE (s), pkA br rgE (r)]⟩) = (
b6 = b6 ∧
 bc = bc ∧
  b6 = b6 ∧
   true = true ∧
    bt = bt ∧
     ∃ (h : Grp = Grp),
      AdtIs (fun (s : Grp) (b : Nat) ↦ packs (grpE s b)) grpE ∧
       List.length s.7 ≤ 100000000 ∧
        (Ent.mk (Loc.sl ao cap) (SObj.roL 3 encStep9 bs (Step9.mk (0 : Int) (0 : Int) (ByteArray.mk #[]))) =
         Ent.mk (Loc.sl ao cap) (SObj.roL 3 encStep9 bs (Step9.mk (0 : Int) (0 : Int) (ByteArray.mk #[]))) ∧
         Ent.mk (Loc.blk bc) (SObj.cells [SV.ptr 4 br 0] (100 : TypeId)) = Ent.mk (Loc.blk bc) (SObj.cells [SV.ptr 4 br 0] (100 : TypeId)) ∧
          Ent.mk (Loc.blk b6) (SObj.cells [SV.int IntKind.i64 x.1, SV.int IntKind.i64 x.2, SV.str x.3] (105 : TypeId)) =
           Ent.mk (Loc.blk b6) (SObj.cells [SV.int IntKind.i64 x.1, SV.int IntKind.i64 x.2, SV.str x.3] (105 : TypeId)) ∧
           True) ∧
         true = true ∧
          br = br ∧
           ∃ (h : RG = RG),
            AdtIs (fun (s : RG) (b : Nat) ↦ packs (rgE s b)) rgE ∧
             rOk r ∧
              ∀ (ao_1 : Option Addr) (cap_1 : Nat) (aoN : Option Addr) (capN : Nat),
               (Ent.mk (Loc.sl ao cap) (SObj.roL 3 encStep9 bs (Step9.mk (0 : Int) (0 : Int) (ByteArray.mk #[]))) =
                Ent.mk (Loc.sl ao cap) (SObj.roL 3 encStep9 bs (Step9.mk (0 : Int) (0 : Int) (ByteArray.mk #[]))) ∧
                Ent.mk (Loc.blk bc) (SObj.cells [SV.ptr 4 br 0] (100 : TypeId)) = Ent.mk (Loc.blk bc) (SObj.cells [SV.ptr 4 br 0] (100 : TypeId)) ∧
                 Ent.mk (Loc.blk b6) (SObj.cells [SV.int IntKind.i64 x.1, SV.int IntKind.i64 x.2, SV.str x.3] (105 : TypeId)) =
                  Ent.mk (Loc.blk b6) (SObj.cells [SV.int IntKind.i64 x.1, SV.int IntKind.i64 x.2, SV.str x.3] (105 : TypeId)) ∧
                  True) ∧
                K (frmR [J0] (bodyOf Try.f11) 30)
                 (Sy.mk (SV.vec 0 ao (List.length bs) cap :: (SV.raw (u 1) :: (SV.raw (u 2) :: (SV.ptr 3 bt 0 :: (SV.ptr 1 bc 0 :: (SV.int IntKind.i64 (↑i : Int) :: (SV.ptr 2 b6 0 :: (SV.int IntKind.i64 (gRemove s x.3).2 :: (SV.int IntKind.i64 (rRemove r x.3 ao_1 cap_1 aoN capN).2 :: (rawR u 9 (SV.ptr 3 bt 0 :: (SV.ptr 2 b6 2 :: (SV.str x.3 :: (SV.int IntKind.i64 (gRemove s x.3).2 :: (SV.ptr 4 br 0 :: (SV.ptr 2 b6 2 :: (SV.str x.3 :: (SV.int IntKind.i64 (rRemove r x.3 ao_1 cap_1 aoN capN).2 :: (rawR u 82 [] 81))))))))) 65))))))))))
                  [Ent.mk (Loc.sl ao cap) (SObj.roL 3 encStep9 bs (Step9.mk (0 : Int) (0 : Int) (ByteArray.mk #[]))),
                   Ent.mk (Loc.blk bc) (SObj.cells [SV.ptr 4 br 0] (100 : TypeId)),
                   Ent.mk (Loc.blk b6) (SObj.cells [SV.int IntKind.i64 x.1, SV.int IntKind.i64 x.2, SV.str x.3] (105 : TypeId)), pkA bt grpE (gRemove s x.3).1,
                   pkA br rgE (rRemove r x.3 ao_1 cap_1 aoN capN).1])) := by kernel_rfl


theorem gp_26 (K : List Frm → Sy → Prop) (N : List Ent → SV → Prop) (J0 : Act → World → Prop) (ao : Option Addr) (cap : Nat) (bs : List Step9) (bt br bc : Nat) (s : Grp) (r : RG) (i : Nat) (x : Step9) (b6 : Nat) (u : Nat → Value) : (run Try.prog gpT true [30, 200003] K (retP Try.prog Try.f11.results.toList N) 900 (frmR [J0] (bodyOf Try.f11) 26) ⟨mkT u 163 0 [(0, .vec 0 ao bs.length cap), (3, .ptr 3 bt 0), (4, .ptr 1 bc 0), (5, .int .i64 (i : Int)), (6, .ptr 2 b6 0), (7, .int .i64 0), (8, .int .i64 0)], [⟨.sl ao cap, .roL 3 encStep9 bs Step9.zero⟩, ⟨.blk bc, .cells [.ptr 4 br 0] 100⟩, ⟨.blk b6, .cells (encStep9 x) 105⟩, pkA bt grpE (s), pkA br rgE (r)]⟩) = (
b6 = b6 ∧
 b6 = b6 ∧
  bc = bc ∧
   b6 = b6 ∧
    b6 = b6 ∧
     true = true ∧
      bt = bt ∧
       ∃ (h : Grp = Grp),
        AdtIs (fun (s : Grp) (b : Nat) ↦ packs (grpE s b)) grpE ∧
         (gOk s x.2 ∧ keysOk s.gs) ∧
          ∀ (ao_1 : Option Addr) (cap_1 : Nat),
           (Ent.mk (Loc.sl ao cap) (SObj.roL 3 encStep9 bs (Step9.mk (0 : Int) (0 : Int) (ByteArray.mk #[]))) =
            Ent.mk (Loc.sl ao cap) (SObj.roL 3 encStep9 bs (Step9.mk (0 : Int) (0 : Int) (ByteArray.mk #[]))) ∧
            Ent.mk (Loc.blk bc) (SObj.cells [SV.ptr 4 br 0] (100 : TypeId)) = Ent.mk (Loc.blk bc) (SObj.cells [SV.ptr 4 br 0] (100 : TypeId)) ∧
             Ent.mk (Loc.blk b6) (SObj.cells [SV.int IntKind.i64 x.1, SV.int IntKind.i64 x.2, SV.str x.3] (105 : TypeId)) =
              Ent.mk (Loc.blk b6) (SObj.cells [SV.int IntKind.i64 x.1, SV.int IntKind.i64 x.2, SV.str x.3] (105 : TypeId)) ∧
              True) ∧
            true = true ∧
             br = br ∧
              ∃ (h : RG = RG),
               AdtIs (fun (s : RG) (b : Nat) ↦ packs (rgE s b)) rgE ∧
                ((rOk r ∧ List.length r.6 ≤ 10000) ∧ rAtOk r.L x.2) ∧
                 ∀ (ao1 : Option Addr) (cap1 : Nat) (aoN : Option Addr) (capN : Nat) (ao_2 : Option Addr) (cap_2 : Nat),
                  (Ent.mk (Loc.sl ao cap) (SObj.roL 3 encStep9 bs (Step9.mk (0 : Int) (0 : Int) (ByteArray.mk #[]))) =
                   Ent.mk (Loc.sl ao cap) (SObj.roL 3 encStep9 bs (Step9.mk (0 : Int) (0 : Int) (ByteArray.mk #[]))) ∧
                   Ent.mk (Loc.blk bc) (SObj.cells [SV.ptr 4 br 0] (100 : TypeId)) =
                    Ent.mk (Loc.blk bc) (SObj.cells [SV.ptr 4 br 0] (100 : TypeId)) ∧
                    Ent.mk (Loc.blk b6) (SObj.cells [SV.int IntKind.i64 x.1, SV.int IntKind.i64 x.2, SV.str x.3] (105 : TypeId)) =
                     Ent.mk (Loc.blk b6) (SObj.cells [SV.int IntKind.i64 x.1, SV.int IntKind.i64 x.2, SV.str x.3] (105 : TypeId)) ∧
                     True) ∧
                   K (frmR [J0] (bodyOf Try.f11) 30)
                    (Sy.mk (SV.vec 0 ao (List.length bs) cap :: (SV.raw (u 1) :: (SV.raw (u 2) :: (SV.ptr 3 bt 0 :: (SV.ptr 1 bc 0 :: (SV.int IntKind.i64 (↑i : Int) :: (SV.ptr 2 b6 0 :: (SV.int IntKind.i64 (gPut s x.2 x.3 ao_1 cap_1).2 :: (SV.int IntKind.i64 (rPut r x.2 x.3 ao1 cap1 aoN capN ao_2 cap_2).2 :: (rawR u 9 (SV.ptr 3 bt 0 :: (SV.ptr 2 b6 1 :: (SV.int IntKind.i64 x.2 :: (SV.ptr 2 b6 2 :: (SV.str x.3 :: (SV.int IntKind.i64 (gPut s x.2 x.3 ao_1 cap_1).2 :: (SV.ptr 4 br 0 :: (SV.ptr 2 b6 1 :: (SV.int IntKind.i64 x.2 :: (SV.ptr 2 b6 2 :: (SV.str x.3 :: (SV.int IntKind.i64 (rPut r x.2 x.3 ao1 cap1 aoN capN ao_2 cap_2).2 :: (rawR u 98 [] 65))))))))))))) 77))))))))))
                     [Ent.mk (Loc.sl ao cap) (SObj.roL 3 encStep9 bs (Step9.mk (0 : Int) (0 : Int) (ByteArray.mk #[]))),
                      Ent.mk (Loc.blk bc) (SObj.cells [SV.ptr 4 br 0] (100 : TypeId)),
                      Ent.mk (Loc.blk b6) (SObj.cells [SV.int IntKind.i64 x.1, SV.int IntKind.i64 x.2, SV.str x.3] (105 : TypeId)), pkA bt grpE (gPut s x.2 x.3 ao_1 cap_1).1,
                      pkA br rgE (rPut r x.2 x.3 ao1 cap1 aoN capN ao_2 cap_2).1])) := by kernel_rfl


theorem gp_28 (K : List Frm → Sy → Prop) (N : List Ent → SV → Prop) (J0 : Act → World → Prop) (ao : Option Addr) (cap : Nat) (bs : List Step9) (bt br bc : Nat) (s : Grp) (r : RG) (i : Nat) (x : Step9) (b6 : Nat) (u : Nat → Value) : (run Try.prog gpT true [30, 200003] K (retP Try.prog Try.f11.results.toList N) 900 (frmR [J0] (bodyOf Try.f11) 28) ⟨mkT u 163 0 [(0, .vec 0 ao bs.length cap), (3, .ptr 3 bt 0), (4, .ptr 1 bc 0), (5, .int .i64 (i : Int)), (6, .ptr 2 b6 0), (7, .int .i64 0), (8, .int .i64 0)], [⟨.sl ao cap, .roL 3 encStep9 bs Step9.zero⟩, ⟨.blk bc, .cells [.ptr 4 br 0] 100⟩, ⟨.blk b6, .cells (encStep9 x) 105⟩, pkA bt grpE (s), pkA br rgE (r)]⟩) = (
b6 = b6 ∧
 bc = bc ∧
  b6 = b6 ∧
   true = true ∧
    bt = bt ∧
     ∃ (h : Grp = Grp),
      AdtIs (fun (s : Grp) (b : Nat) ↦ packs (grpE s b)) grpE ∧
       gOk s x.2 ∧
        ∀ (ao_1 : Option Addr) (cap_1 : Nat),
         (Ent.mk (Loc.sl ao cap) (SObj.roL 3 encStep9 bs (Step9.mk (0 : Int) (0 : Int) (ByteArray.mk #[]))) =
          Ent.mk (Loc.sl ao cap) (SObj.roL 3 encStep9 bs (Step9.mk (0 : Int) (0 : Int) (ByteArray.mk #[]))) ∧
          Ent.mk (Loc.blk bc) (SObj.cells [SV.ptr 4 br 0] (100 : TypeId)) = Ent.mk (Loc.blk bc) (SObj.cells [SV.ptr 4 br 0] (100 : TypeId)) ∧
           Ent.mk (Loc.blk b6) (SObj.cells [SV.int IntKind.i64 x.1, SV.int IntKind.i64 x.2, SV.str x.3] (105 : TypeId)) =
            Ent.mk (Loc.blk b6) (SObj.cells [SV.int IntKind.i64 x.1, SV.int IntKind.i64 x.2, SV.str x.3] (105 : TypeId)) ∧
            True) ∧
          true = true ∧
           br = br ∧
            ∃ (h : RG = RG),
             AdtIs (fun (s : RG) (b : Nat) ↦ packs (rgE s b)) rgE ∧
              (rOk r ∧ rAtOk r.L x.2) ∧
               ∀ (ao_2 : Option Addr) (cap_2 : Nat) (aoN : Option Addr) (capN : Nat),
                (Ent.mk (Loc.sl ao cap) (SObj.roL 3 encStep9 bs (Step9.mk (0 : Int) (0 : Int) (ByteArray.mk #[]))) =
                 Ent.mk (Loc.sl ao cap) (SObj.roL 3 encStep9 bs (Step9.mk (0 : Int) (0 : Int) (ByteArray.mk #[]))) ∧
                 Ent.mk (Loc.blk bc) (SObj.cells [SV.ptr 4 br 0] (100 : TypeId)) = Ent.mk (Loc.blk bc) (SObj.cells [SV.ptr 4 br 0] (100 : TypeId)) ∧
                  Ent.mk (Loc.blk b6) (SObj.cells [SV.int IntKind.i64 x.1, SV.int IntKind.i64 x.2, SV.str x.3] (105 : TypeId)) =
                   Ent.mk (Loc.blk b6) (SObj.cells [SV.int IntKind.i64 x.1, SV.int IntKind.i64 x.2, SV.str x.3] (105 : TypeId)) ∧
                   True) ∧
                 match !(gGone s x.2 ao_1 cap_1).2 == (rGone r x.2 ao_2 cap_2 aoN capN).2 with
                 | true =>
                  N
                   [Ent.mk (Loc.sl ao cap) (SObj.roL 3 encStep9 bs (Step9.mk (0 : Int) (0 : Int) (ByteArray.mk #[]))),
                    Ent.mk (Loc.blk bc) (SObj.cells [SV.ptr 4 br 0] (100 : TypeId)),
                    Ent.mk (Loc.blk b6) (SObj.cells [SV.int IntKind.i64 x.1, SV.int IntKind.i64 x.2, SV.str x.3] (105 : TypeId)), pkA bt grpE (gGone s x.2 ao_1 cap_1).1,
                    pkA br rgE (rGone r x.2 ao_2 cap_2 aoN capN).1]
                   (SV.bool false)
                 | false =>
                  K (frmR [J0] (bodyOf Try.f11) 30)
                   (Sy.mk (SV.vec 0 ao (List.length bs) cap :: (SV.raw (u 1) :: (SV.raw (u 2) :: (SV.ptr 3 bt 0 :: (SV.ptr 1 bc 0 :: (SV.int IntKind.i64 (↑i : Int) :: (SV.ptr 2 b6 0 :: (SV.int IntKind.i64 (0 : Int) :: (SV.int IntKind.i64 (0 : Int) :: (rawR u 9 (SV.ptr 3 bt 0 :: (SV.ptr 2 b6 1 :: (SV.int IntKind.i64 x.2 :: (SV.bool (gGone s x.2 ao_1 cap_1).2 :: (SV.ptr 4 br 0 :: (SV.ptr 2 b6 1 :: (SV.int IntKind.i64 x.2 :: (SV.bool (rGone r x.2 ao_2 cap_2 aoN capN).2 :: (SV.bool false :: (rawR u 109 [] 54)))))))))) 91))))))))))
                    [Ent.mk (Loc.sl ao cap) (SObj.roL 3 encStep9 bs (Step9.mk (0 : Int) (0 : Int) (ByteArray.mk #[]))),
                     Ent.mk (Loc.blk bc) (SObj.cells [SV.ptr 4 br 0] (100 : TypeId)),
                     Ent.mk (Loc.blk b6) (SObj.cells [SV.int IntKind.i64 x.1, SV.int IntKind.i64 x.2, SV.str x.3] (105 : TypeId)), pkA bt grpE (gGone s x.2 ao_1 cap_1).1,
                     pkA br rgE (rGone r x.2 ao_2 cap_2 aoN capN).1])) := by kernel_rfl


theorem gp_14 (K : List Frm → Sy → Prop) (N : List Ent → SV → Prop) (J0 : Act → World → Prop) (ao : Option Addr) (cap : Nat) (bs : List Step9) (bt br bc : Nat) (s : Grp) (r : RG) (i : Nat) (x : Step9) (b6 : Nat) (u : Nat → Value) : (run Try.prog gpT true [30, 200003] K (retP Try.prog Try.f11.results.toList N) 900 (frmR [J0] (bodyOf Try.f11) 14) ⟨mkT u 163 0 [(0, .vec 0 ao bs.length cap), (3, .ptr 3 bt 0), (4, .ptr 1 bc 0), (5, .int .i64 (i : Int)), (6, .ptr 2 b6 0), (7, .int .i64 0), (8, .int .i64 0)], [⟨.sl ao cap, .roL 3 encStep9 bs Step9.zero⟩, ⟨.blk bc, .cells [.ptr 4 br 0] 100⟩, ⟨.blk b6, .cells (encStep9 x) 105⟩, pkA bt grpE (s), pkA br rgE (r)]⟩) = (
true = true ∧
 bt = bt ∧
  ∃ (h : Grp = Grp),
   AdtIs (fun (s : Grp) (b : Nat) ↦ packs (grpE s b)) grpE ∧
    ∀ (ao_1 : Option Addr) (cap_1 : Nat),
     bc = bc ∧
      true = true ∧
       br = br ∧
        ∃ (h : RG = RG),
         AdtIs (fun (s : RG) (b : Nat) ↦ packs (rgE s b)) rgE ∧
          rOk r ∧
           ∀ (ao_2 : Option Addr) (cap_2 : Nat),
            match
             !sEq
              (match (gEmptied s ao_1 cap_1).2 with
              | some x => x
              | none => ByteArray.mk #[])
              (match (rFirst r.3 r.6).2 with
              | some x => x
              | none => ByteArray.mk #[]) with
            | true =>
             N
              [Ent.mk (Loc.sl ao cap) (SObj.roL 3 encStep9 bs (Step9.mk (0 : Int) (0 : Int) (ByteArray.mk #[]))),
               Ent.mk (Loc.blk bc) (SObj.cells [SV.ptr 4 br 0] (100 : TypeId)),
               Ent.mk (Loc.blk b6) (SObj.cells [SV.int IntKind.i64 x.1, SV.int IntKind.i64 x.2, SV.str x.3] (105 : TypeId)), pkA bt grpE (gEmptied s ao_1 cap_1).1,
               pkA br rgE (RG.mk r.aoL r.2 r.3 ao_2 cap_2 (rFirst r.3 r.6).1)]
              (SV.bool false)
            | false =>
             match !Option.isSome (gEmptied s ao_1 cap_1).2 == Option.isSome (rFirst r.3 r.6).2 with
             | true =>
              N
               [Ent.mk (Loc.sl ao cap) (SObj.roL 3 encStep9 bs (Step9.mk (0 : Int) (0 : Int) (ByteArray.mk #[]))),
                Ent.mk (Loc.blk bc) (SObj.cells [SV.ptr 4 br 0] (100 : TypeId)),
                Ent.mk (Loc.blk b6) (SObj.cells [SV.int IntKind.i64 x.1, SV.int IntKind.i64 x.2, SV.str x.3] (105 : TypeId)), pkA bt grpE (gEmptied s ao_1 cap_1).1,
                pkA br rgE (RG.mk r.aoL r.2 r.3 ao_2 cap_2 (rFirst r.3 r.6).1)]
               (SV.bool false)
             | false =>
              K (frmR [J0] (bodyOf Try.f11) 30)
               (Sy.mk (SV.vec 0 ao (List.length bs) cap :: (SV.raw (u 1) :: (SV.raw (u 2) :: (SV.ptr 3 bt 0 :: (SV.ptr 1 bc 0 :: (SV.int IntKind.i64 (↑i : Int) :: (SV.ptr 2 b6 0 :: (SV.int IntKind.i64 (0 : Int) :: (SV.int IntKind.i64 (0 : Int) :: ((SV.str (match (gEmptied s ao_1 cap_1).2 with | some x => x | none => ByteArray.mk #[])) :: (SV.bool (Option.isSome (gEmptied s ao_1 cap_1).2) :: ((SV.str (match (rFirst r.3 r.6).2 with | some x => x | none => ByteArray.mk #[])) :: (SV.bool (Option.isSome (rFirst r.3 r.6).2) :: (rawR u 13 ((SV.tuple [SV.str (match (gEmptied s ao_1 cap_1).2 with | some x => x | none => ByteArray.mk #[]), SV.bool (Option.isSome (gEmptied s ao_1 cap_1).2)]) :: (SV.ptr 3 bt 0 :: ((SV.tuple [SV.str (match (gEmptied s ao_1 cap_1).2 with | some x => x | none => ByteArray.mk #[]), SV.bool (Option.isSome (gEmptied s ao_1 cap_1).2)]) :: ((SV.str (match (gEmptied s ao_1 cap_1).2 with | some x => x | none => ByteArray.mk #[])) :: (SV.bool (Option.isSome (gEmptied s ao_1 cap_1).2) :: ((SV.tuple [SV.str (match (rFirst r.3 r.6).2 with | some x => x | none => ByteArray.mk #[]), SV.bool (Option.isSome (rFirst r.3 r.6).2)]) :: (SV.ptr 4 br 0 :: ((SV.tuple [SV.str (match (rFirst r.3 r.6).2 with | some x => x | none => ByteArray.mk #[]), SV.bool (Option.isSome (rFirst r.3 r.6).2)]) :: ((SV.str (match (rFirst r.3 r.6).2 with | some x => x | none => ByteArray.mk #[])) :: (SV.bool (Option.isSome (rFirst r.3 r.6).2) :: ((SV.str (match (gEmptied s ao_1 cap_1).2 with | some x => x | none => ByteArray.mk #[])) :: ((SV.str (match (rFirst r.3 r.6).2 with | some x => x | none => ByteArray.mk #[])) :: ((SV.bool !sEq (match (gEmptied s ao_1 cap_1).2 with | some x => x | none => ByteArray.mk #[]) (match (rFirst r.3 r.6).2 with | some x => x | none => ByteArray.mk #[])) :: (SV.bool false :: (SV.bool (Option.isSome (gEmptied s ao_1 cap_1).2) :: (SV.bool (Option.isSome (rFirst r.3 r.6).2) :: ((SV.bool !Option.isSome (gEmptied s ao_1 cap_1).2 == Option.isSome (rFirst r.3 r.6).2) :: (SV.bool false :: (rawR u 61 [] 102))))))))))))))))))) 30))))))))))))))
                [Ent.mk (Loc.sl ao cap) (SObj.roL 3 encStep9 bs (Step9.mk (0 : Int) (0 : Int) (ByteArray.mk #[]))),
                 Ent.mk (Loc.blk bc) (SObj.cells [SV.ptr 4 br 0] (100 : TypeId)),
                 Ent.mk (Loc.blk b6) (SObj.cells [SV.int IntKind.i64 x.1, SV.int IntKind.i64 x.2, SV.str x.3] (105 : TypeId)), pkA bt grpE (gEmptied s ao_1 cap_1).1,
                 pkA br rgE (RG.mk r.aoL r.2 r.3 ao_2 cap_2 (rFirst r.3 r.6).1)])) := by kernel_rfl


theorem gp_30 (K : List Frm → Sy → Prop) (N : List Ent → SV → Prop) (J0 : Act → World → Prop) (ao : Option Addr) (cap : Nat) (bs : List Step9) (bt br bc : Nat) (s : Grp) (r : RG) (i : Nat) (x : Step9) (b6 : Nat) (e : Int) (u : Nat → Value) : (run Try.prog gpT true [34, 200003] K (retP Try.prog Try.f11.results.toList N) 2000 (frmR [J0] (bodyOf Try.f11) 30) ⟨mkT u 163 0 [(0, .vec 0 ao bs.length cap), (3, .ptr 3 bt 0), (4, .ptr 1 bc 0), (5, .int .i64 (i : Int)), (6, .ptr 2 b6 0), (7, .int .i64 e), (8, .int .i64 e)], [⟨.sl ao cap, .roL 3 encStep9 bs Step9.zero⟩, ⟨.blk bc, .cells [.ptr 4 br 0] 100⟩, ⟨.blk b6, .cells (encStep9 x) 105⟩, pkA bt grpE (s), pkA br rgE (r)]⟩) = (
b6 = b6 ∧
 true = true ∧
  bt = bt ∧
   ∃ (h : Grp = Grp),
    AdtIs (fun (s : Grp) (b : Nat) ↦ packs (grpE s b)) grpE ∧
     bc = bc ∧
      b6 = b6 ∧
       true = true ∧
        br = br ∧
         ∃ (h : RG = RG),
          AdtIs (fun (s : RG) (b : Nat) ↦ packs (rgE s b)) rgE ∧
           rOk r ∧
            match e != e with
            | true =>
             (Ent.mk (Loc.sl ao cap) (SObj.roL 3 encStep9 bs (Step9.mk (0 : Int) (0 : Int) (ByteArray.mk #[]))) =
              Ent.mk (Loc.sl ao cap) (SObj.roL 3 encStep9 bs (Step9.mk (0 : Int) (0 : Int) (ByteArray.mk #[]))) ∧
              Ent.mk (Loc.blk bc) (SObj.cells [SV.ptr 4 br 0] (100 : TypeId)) = Ent.mk (Loc.blk bc) (SObj.cells [SV.ptr 4 br 0] (100 : TypeId)) ∧
               Ent.mk (Loc.blk b6) (SObj.cells [SV.int IntKind.i64 x.1, SV.int IntKind.i64 x.2, SV.str x.3] (105 : TypeId)) =
                Ent.mk (Loc.blk b6) (SObj.cells [SV.int IntKind.i64 x.1, SV.int IntKind.i64 x.2, SV.str x.3] (105 : TypeId)) ∧
                True) ∧
              (Ent.mk (Loc.sl ao cap) (SObj.roL 3 encStep9 bs (Step9.mk (0 : Int) (0 : Int) (ByteArray.mk #[]))) =
               Ent.mk (Loc.sl ao cap) (SObj.roL 3 encStep9 bs (Step9.mk (0 : Int) (0 : Int) (ByteArray.mk #[]))) ∧
               Ent.mk (Loc.blk bc) (SObj.cells [SV.ptr 4 br 0] (100 : TypeId)) = Ent.mk (Loc.blk bc) (SObj.cells [SV.ptr 4 br 0] (100 : TypeId)) ∧
                Ent.mk (Loc.blk b6) (SObj.cells [SV.int IntKind.i64 x.1, SV.int IntKind.i64 x.2, SV.str x.3] (105 : TypeId)) =
                 Ent.mk (Loc.blk b6) (SObj.cells [SV.int IntKind.i64 x.1, SV.int IntKind.i64 x.2, SV.str x.3] (105 : TypeId)) ∧
                 True) ∧
               (Ent.mk (Loc.sl ao cap) (SObj.roL 3 encStep9 bs (Step9.mk (0 : Int) (0 : Int) (ByteArray.mk #[]))) =
                Ent.mk (Loc.sl ao cap) (SObj.roL 3 encStep9 bs (Step9.mk (0 : Int) (0 : Int) (ByteArray.mk #[]))) ∧
                Ent.mk (Loc.blk bc) (SObj.cells [SV.ptr 4 br 0] (100 : TypeId)) = Ent.mk (Loc.blk bc) (SObj.cells [SV.ptr 4 br 0] (100 : TypeId)) ∧
                 Ent.mk (Loc.blk b6) (SObj.cells [SV.int IntKind.i64 x.1, SV.int IntKind.i64 x.2, SV.str x.3] (105 : TypeId)) =
                  Ent.mk (Loc.blk b6) (SObj.cells [SV.int IntKind.i64 x.1, SV.int IntKind.i64 x.2, SV.str x.3] (105 : TypeId)) ∧
                  True) ∧
                N
                 [Ent.mk (Loc.sl ao cap) (SObj.roL 3 encStep9 bs (Step9.mk (0 : Int) (0 : Int) (ByteArray.mk #[]))),
                  Ent.mk (Loc.blk bc) (SObj.cells [SV.ptr 4 br 0] (100 : TypeId)),
                  Ent.mk (Loc.blk b6) (SObj.cells [SV.int IntKind.i64 x.1, SV.int IntKind.i64 x.2, SV.str x.3] (105 : TypeId)), pkA bt grpE s, pkA br rgE r]
                 (SV.bool false)
            | false =>
             match
              !sEq
               (match mget s.6 (Key.i IntKind.i64 x.2) with
               | some x => x
               | none => ByteArray.mk #[])
               (match rOf r.3 x.2 with
               | some x => x
               | none => ByteArray.mk #[]) with
             | true =>
              (Ent.mk (Loc.sl ao cap) (SObj.roL 3 encStep9 bs (Step9.mk (0 : Int) (0 : Int) (ByteArray.mk #[]))) =
               Ent.mk (Loc.sl ao cap) (SObj.roL 3 encStep9 bs (Step9.mk (0 : Int) (0 : Int) (ByteArray.mk #[]))) ∧
               Ent.mk (Loc.blk bc) (SObj.cells [SV.ptr 4 br 0] (100 : TypeId)) = Ent.mk (Loc.blk bc) (SObj.cells [SV.ptr 4 br 0] (100 : TypeId)) ∧
                Ent.mk (Loc.blk b6) (SObj.cells [SV.int IntKind.i64 x.1, SV.int IntKind.i64 x.2, SV.str x.3] (105 : TypeId)) =
                 Ent.mk (Loc.blk b6) (SObj.cells [SV.int IntKind.i64 x.1, SV.int IntKind.i64 x.2, SV.str x.3] (105 : TypeId)) ∧
                 True) ∧
               (Ent.mk (Loc.sl ao cap) (SObj.roL 3 encStep9 bs (Step9.mk (0 : Int) (0 : Int) (ByteArray.mk #[]))) =
                Ent.mk (Loc.sl ao cap) (SObj.roL 3 encStep9 bs (Step9.mk (0 : Int) (0 : Int) (ByteArray.mk #[]))) ∧
                Ent.mk (Loc.blk bc) (SObj.cells [SV.ptr 4 br 0] (100 : TypeId)) = Ent.mk (Loc.blk bc) (SObj.cells [SV.ptr 4 br 0] (100 : TypeId)) ∧
                 Ent.mk (Loc.blk b6) (SObj.cells [SV.int IntKind.i64 x.1, SV.int IntKind.i64 x.2, SV.str x.3] (105 : TypeId)) =
                  Ent.mk (Loc.blk b6) (SObj.cells [SV.int IntKind.i64 x.1, SV.int IntKind.i64 x.2, SV.str x.3] (105 : TypeId)) ∧
                  True) ∧
                (Ent.mk (Loc.sl ao cap) (SObj.roL 3 encStep9 bs (Step9.mk (0 : Int) (0 : Int) (ByteArray.mk #[]))) =
                 Ent.mk (Loc.sl ao cap) (SObj.roL 3 encStep9 bs (Step9.mk (0 : Int) (0 : Int) (ByteArray.mk #[]))) ∧
                 Ent.mk (Loc.blk bc) (SObj.cells [SV.ptr 4 br 0] (100 : TypeId)) = Ent.mk (Loc.blk bc) (SObj.cells [SV.ptr 4 br 0] (100 : TypeId)) ∧
                  Ent.mk (Loc.blk b6) (SObj.cells [SV.int IntKind.i64 x.1, SV.int IntKind.i64 x.2, SV.str x.3] (105 : TypeId)) =
                   Ent.mk (Loc.blk b6) (SObj.cells [SV.int IntKind.i64 x.1, SV.int IntKind.i64 x.2, SV.str x.3] (105 : TypeId)) ∧
                   True) ∧
                 N
                  [Ent.mk (Loc.sl ao cap) (SObj.roL 3 encStep9 bs (Step9.mk (0 : Int) (0 : Int) (ByteArray.mk #[]))),
                   Ent.mk (Loc.blk bc) (SObj.cells [SV.ptr 4 br 0] (100 : TypeId)),
                   Ent.mk (Loc.blk b6) (SObj.cells [SV.int IntKind.i64 x.1, SV.int IntKind.i64 x.2, SV.str x.3] (105 : TypeId)), pkA bt grpE s, pkA br rgE r]
                  (SV.bool false)
             | false =>
              match !Option.isSome (mget s.6 (Key.i IntKind.i64 x.2)) == Option.isSome (rOf r.3 x.2) with
              | true =>
               (Ent.mk (Loc.sl ao cap) (SObj.roL 3 encStep9 bs (Step9.mk (0 : Int) (0 : Int) (ByteArray.mk #[]))) =
                Ent.mk (Loc.sl ao cap) (SObj.roL 3 encStep9 bs (Step9.mk (0 : Int) (0 : Int) (ByteArray.mk #[]))) ∧
                Ent.mk (Loc.blk bc) (SObj.cells [SV.ptr 4 br 0] (100 : TypeId)) = Ent.mk (Loc.blk bc) (SObj.cells [SV.ptr 4 br 0] (100 : TypeId)) ∧
                 Ent.mk (Loc.blk b6) (SObj.cells [SV.int IntKind.i64 x.1, SV.int IntKind.i64 x.2, SV.str x.3] (105 : TypeId)) =
                  Ent.mk (Loc.blk b6) (SObj.cells [SV.int IntKind.i64 x.1, SV.int IntKind.i64 x.2, SV.str x.3] (105 : TypeId)) ∧
                  True) ∧
                (Ent.mk (Loc.sl ao cap) (SObj.roL 3 encStep9 bs (Step9.mk (0 : Int) (0 : Int) (ByteArray.mk #[]))) =
                 Ent.mk (Loc.sl ao cap) (SObj.roL 3 encStep9 bs (Step9.mk (0 : Int) (0 : Int) (ByteArray.mk #[]))) ∧
                 Ent.mk (Loc.blk bc) (SObj.cells [SV.ptr 4 br 0] (100 : TypeId)) = Ent.mk (Loc.blk bc) (SObj.cells [SV.ptr 4 br 0] (100 : TypeId)) ∧
                  Ent.mk (Loc.blk b6) (SObj.cells [SV.int IntKind.i64 x.1, SV.int IntKind.i64 x.2, SV.str x.3] (105 : TypeId)) =
                   Ent.mk (Loc.blk b6) (SObj.cells [SV.int IntKind.i64 x.1, SV.int IntKind.i64 x.2, SV.str x.3] (105 : TypeId)) ∧
                   True) ∧
                 (Ent.mk (Loc.sl ao cap) (SObj.roL 3 encStep9 bs (Step9.mk (0 : Int) (0 : Int) (ByteArray.mk #[]))) =
                  Ent.mk (Loc.sl ao cap) (SObj.roL 3 encStep9 bs (Step9.mk (0 : Int) (0 : Int) (ByteArray.mk #[]))) ∧
                  Ent.mk (Loc.blk bc) (SObj.cells [SV.ptr 4 br 0] (100 : TypeId)) =
                   Ent.mk (Loc.blk bc) (SObj.cells [SV.ptr 4 br 0] (100 : TypeId)) ∧
                   Ent.mk (Loc.blk b6) (SObj.cells [SV.int IntKind.i64 x.1, SV.int IntKind.i64 x.2, SV.str x.3] (105 : TypeId)) =
                    Ent.mk (Loc.blk b6) (SObj.cells [SV.int IntKind.i64 x.1, SV.int IntKind.i64 x.2, SV.str x.3] (105 : TypeId)) ∧
                    True) ∧
                  N
                   [Ent.mk (Loc.sl ao cap) (SObj.roL 3 encStep9 bs (Step9.mk (0 : Int) (0 : Int) (ByteArray.mk #[]))),
                    Ent.mk (Loc.blk bc) (SObj.cells [SV.ptr 4 br 0] (100 : TypeId)),
                    Ent.mk (Loc.blk b6) (SObj.cells [SV.int IntKind.i64 x.1, SV.int IntKind.i64 x.2, SV.str x.3] (105 : TypeId)), pkA bt grpE s, pkA br rgE r]
                   (SV.bool false)
              | false =>
               b6 = b6 ∧
                bc = bc ∧
                 b6 = b6 ∧
                  true = true ∧
                   bt = bt ∧
                    ∃ (h : Grp = Grp),
                     AdtIs (fun (s : Grp) (b : Nat) ↦ packs (grpE s b)) grpE ∧
                      memGOk (cast h s) x.3 ∧
                       ∀ (ao_1 : Option Addr) (cap_1 : Nat),
                        (Ent.mk (Loc.sl ao cap) (SObj.roL 3 encStep9 bs (Step9.mk (0 : Int) (0 : Int) (ByteArray.mk #[]))) =
                         Ent.mk (Loc.sl ao cap) (SObj.roL 3 encStep9 bs (Step9.mk (0 : Int) (0 : Int) (ByteArray.mk #[]))) ∧
                         Ent.mk (Loc.blk bc) (SObj.cells [SV.ptr 4 br 0] (100 : TypeId)) =
                          Ent.mk (Loc.blk bc) (SObj.cells [SV.ptr 4 br 0] (100 : TypeId)) ∧
                          Ent.mk (Loc.blk b6) (SObj.cells [SV.int IntKind.i64 x.1, SV.int IntKind.i64 x.2, SV.str x.3] (105 : TypeId)) =
                           Ent.mk (Loc.blk b6) (SObj.cells [SV.int IntKind.i64 x.1, SV.int IntKind.i64 x.2, SV.str x.3] (105 : TypeId)) ∧
                           True) ∧
                         true = true ∧
                          br = br ∧
                           ∃ (h : RG = RG),
                            AdtIs (fun (s : RG) (b : Nat) ↦ packs (rgE s b)) rgE ∧
                             rOk (cast h r) ∧
                              ∀ (ao_2 : Option Addr) (cap_2 : Nat),
                               (Ent.mk (Loc.sl ao cap) (SObj.roL 3 encStep9 bs (Step9.mk (0 : Int) (0 : Int) (ByteArray.mk #[]))) =
                                Ent.mk (Loc.sl ao cap) (SObj.roL 3 encStep9 bs (Step9.mk (0 : Int) (0 : Int) (ByteArray.mk #[]))) ∧
                                Ent.mk (Loc.blk bc) (SObj.cells [SV.ptr 4 br 0] (100 : TypeId)) =
                                 Ent.mk (Loc.blk bc) (SObj.cells [SV.ptr 4 br 0] (100 : TypeId)) ∧
                                 Ent.mk (Loc.blk b6) (SObj.cells [SV.int IntKind.i64 x.1, SV.int IntKind.i64 x.2, SV.str x.3] (105 : TypeId)) =
                                  Ent.mk (Loc.blk b6) (SObj.cells [SV.int IntKind.i64 x.1, SV.int IntKind.i64 x.2, SV.str x.3] (105 : TypeId)) ∧
                                  True) ∧
                                true = true ∧
                                 ∃ (xs : List Int),
                                  some (Ent.mk (Loc.sl ao_1 cap_1) (SObj.vecL (3 : TypeId) 1 encI1 (memG s x.3) (0 : Int))) =
                                   some (Ent.mk (Loc.sl ao_1 cap_1) (SObj.vecL (3 : TypeId) 1 encI1 xs (0 : Int))) ∧
                                   some (Ent.mk (Loc.sl ao_2 cap_2) (SObj.vecL (3 : TypeId) 1 encI1 (rMem r.3 x.3) (0 : Int))) =
                                    some (Ent.mk (Loc.sl ao_2 cap_2) (SObj.vecL (3 : TypeId) 1 encI1 xs (0 : Int))) ∧
                                    (false = false ∧
                                     List.length (memG s x.3) = List.length xs ∧
                                      List.length (rMem r.3 x.3) = List.length xs ∧ List.length xs ≤ 1000000) ∧
                                     (Ent.mk (Loc.sl ao cap) (SObj.roL 3 encStep9 bs (Step9.mk (0 : Int) (0 : Int) (ByteArray.mk #[]))) =
                                      Ent.mk (Loc.sl ao cap) (SObj.roL 3 encStep9 bs (Step9.mk (0 : Int) (0 : Int) (ByteArray.mk #[]))) ∧
                                      Ent.mk (Loc.blk bc) (SObj.cells [SV.ptr 4 br 0] (100 : TypeId)) =
                                       Ent.mk (Loc.blk bc) (SObj.cells [SV.ptr 4 br 0] (100 : TypeId)) ∧
                                       Ent.mk (Loc.blk b6) (SObj.cells [SV.int IntKind.i64 x.1, SV.int IntKind.i64 x.2, SV.str x.3] (105 : TypeId)) =
                                        Ent.mk (Loc.blk b6) (SObj.cells [SV.int IntKind.i64 x.1, SV.int IntKind.i64 x.2, SV.str x.3] (105 : TypeId)) ∧
                                        True) ∧
                                      K (frmR [J0] (bodyOf Try.f11) 34)
                                       (Sy.mk (SV.vec 0 ao (List.length bs) cap :: (SV.raw (u 1) :: (SV.raw (u 2) :: (SV.ptr 3 bt 0 :: (SV.ptr 1 bc 0 :: (SV.int IntKind.i64 (↑i : Int) :: (SV.ptr 2 b6 0 :: (SV.int IntKind.i64 e :: (SV.int IntKind.i64 e :: (rawR u 9 ((SV.str (match mget s.6 (Key.i IntKind.i64 x.2) with | some x => x | none => ByteArray.mk #[])) :: (SV.bool (Option.isSome (mget s.6 (Key.i IntKind.i64 x.2))) :: ((SV.str (match rOf r.3 x.2 with | some x => x | none => ByteArray.mk #[])) :: (SV.bool (Option.isSome (rOf r.3 x.2)) :: (rawR u 17 ((SV.tuple [SV.str (match mget s.6 (Key.i IntKind.i64 x.2) with | some x => x | none => ByteArray.mk #[]), SV.bool (Option.isSome (mget s.6 (Key.i IntKind.i64 x.2)))]) :: (SV.ptr 3 bt 0 :: (SV.ptr 2 b6 1 :: (SV.int IntKind.i64 x.2 :: ((SV.tuple [SV.str (match mget s.6 (Key.i IntKind.i64 x.2) with | some x => x | none => ByteArray.mk #[]), SV.bool (Option.isSome (mget s.6 (Key.i IntKind.i64 x.2)))]) :: ((SV.str (match mget s.6 (Key.i IntKind.i64 x.2) with | some x => x | none => ByteArray.mk #[])) :: (SV.bool (Option.isSome (mget s.6 (Key.i IntKind.i64 x.2))) :: ((SV.tuple [SV.str (match rOf r.3 x.2 with | some x => x | none => ByteArray.mk #[]), SV.bool (Option.isSome (rOf r.3 x.2))]) :: (SV.ptr 4 br 0 :: (SV.ptr 2 b6 1 :: (SV.int IntKind.i64 x.2 :: ((SV.tuple [SV.str (match rOf r.3 x.2 with | some x => x | none => ByteArray.mk #[]), SV.bool (Option.isSome (rOf r.3 x.2))]) :: ((SV.str (match rOf r.3 x.2 with | some x => x | none => ByteArray.mk #[])) :: (SV.bool (Option.isSome (rOf r.3 x.2)) :: (SV.int IntKind.i64 e :: (SV.int IntKind.i64 e :: ((SV.bool (e != e)) :: (SV.bool false :: ((SV.str (match mget s.6 (Key.i IntKind.i64 x.2) with | some x => x | none => ByteArray.mk #[])) :: ((SV.str (match rOf r.3 x.2 with | some x => x | none => ByteArray.mk #[])) :: ((SV.bool !sEq (match mget s.6 (Key.i IntKind.i64 x.2) with | some x => x | none => ByteArray.mk #[]) (match rOf r.3 x.2 with | some x => x | none => ByteArray.mk #[])) :: ((SV.bool !sEq (match mget s.6 (Key.i IntKind.i64 x.2) with | some x => x | none => ByteArray.mk #[]) (match rOf r.3 x.2 with | some x => x | none => ByteArray.mk #[])) :: (SV.bool false :: (SV.bool (Option.isSome (mget s.6 (Key.i IntKind.i64 x.2))) :: (SV.bool (Option.isSome (rOf r.3 x.2)) :: ((SV.bool !Option.isSome (mget s.6 (Key.i IntKind.i64 x.2)) == Option.isSome (rOf r.3 x.2)) :: ((SV.bool !Option.isSome (mget s.6 (Key.i IntKind.i64 x.2)) == Option.isSome (rOf r.3 x.2)) :: (SV.bool false :: (SV.ptr 3 bt 0 :: (SV.ptr 2 b6 2 :: (SV.str x.3 :: (SV.vec 5 ao_1 (List.length (memG s x.3)) cap_1 :: (SV.ptr 4 br 0 :: (SV.ptr 2 b6 2 :: (SV.str x.3 :: (SV.vec 6 ao_2 (List.length (rMem r.3 x.3)) cap_2 :: (SV.bool true :: (SV.bool false :: (SV.bool false :: (rawR u 148 [] 15)))))))))))))))))))))))))))))))))))))))) 92))))) 4))))))))))
                                        [Ent.mk (Loc.sl ao cap) (SObj.roL 3 encStep9 bs (Step9.mk (0 : Int) (0 : Int) (ByteArray.mk #[]))),
                                         Ent.mk (Loc.blk bc) (SObj.cells [SV.ptr 4 br 0] (100 : TypeId)),
                                         Ent.mk (Loc.blk b6) (SObj.cells [SV.int IntKind.i64 x.1, SV.int IntKind.i64 x.2, SV.str x.3] (105 : TypeId)),
                                         pkA bt grpE s, pkA br rgE r,
                                         Ent.mk (Loc.sl ao_1 cap_1) (SObj.vecL (3 : TypeId) 1 encI1 (memG s x.3) (0 : Int)),
                                         Ent.mk (Loc.sl ao_2 cap_2) (SObj.vecL (3 : TypeId) 1 encI1 (rMem r.3 x.3) (0 : Int))])) := by kernel_rfl


theorem gp_34 (K : List Frm → Sy → Prop) (N : List Ent → SV → Prop) (J0 : Act → World → Prop) (ao : Option Addr) (cap : Nat) (bs : List Step9) (bt br bc : Nat) (s : Grp) (r : RG) (i : Nat) (x : Step9) (b6 : Nat) (u : Nat → Value) : (run Try.prog gpT false [37] K (retP Try.prog Try.f11.results.toList N) 2000 (frmR [J0] (bodyOf Try.f11) 34) ⟨mkT u 163 0 [(0, .vec 0 ao bs.length cap), (3, .ptr 3 bt 0), (4, .ptr 1 bc 0), (5, .int .i64 (i : Int)), (6, .ptr 2 b6 0)], [⟨.sl ao cap, .roL 3 encStep9 bs Step9.zero⟩, ⟨.blk bc, .cells [.ptr 4 br 0] 100⟩, ⟨.blk b6, .cells (encStep9 x) 105⟩, pkA bt grpE (s), pkA br rgE (r)]⟩) = (
∀ (b : Nat),
 (b = b ∧ true = true ∧ 1 = 1 ∧ 1 ≤ 1) ∧
  ∀ (b_1 : Nat),
   (b_1 = b_1 ∧ true = true ∧ 1 = 1 ∧ 1 ≤ 1) ∧
    true = true ∧
     true = true ∧
      ∀ (b_2 : Nat),
       true = true ∧
        69 = (69 : FuncId) ∧
         ∃ (s_1 : Grp),
          ∃ (r_1 : RG),
           ∃ (k : Nat),
            ∃ (lg : Nat),
             ∃ (bg : Nat),
              ∃ (lR : Nat),
               ∃ (bR : Nat),
                some (Ent.mk (Loc.blk b_1) (SObj.cells [SV.bool true] 4)) = some (Ent.mk (Loc.blk b_1) (SObj.cells [SV.bool true] (4 : TypeId))) ∧
                 some (Ent.mk (Loc.blk b) (SObj.cells [SV.int IntKind.i64 (0 : Int)] 3)) = some (Ent.mk (Loc.blk b) (SObj.cells [SV.int IntKind.i64 (0 : Int)] (3 : TypeId))) ∧
                  some (Ent.mk (Loc.blk bc) (SObj.cells [SV.ptr 4 br 0] (100 : TypeId))) =
                   some (Ent.mk (Loc.blk bc) (SObj.cells [SV.ptr lR bR 0] (100 : TypeId))) ∧
                   nth
                    [Ent.mk (Loc.sl ao cap) (SObj.roL 3 encStep9 bs (Step9.mk (0 : Int) (0 : Int) (ByteArray.mk #[]))),
                     Ent.mk (Loc.blk bc) (SObj.cells [SV.ptr 4 br 0] (100 : TypeId)),
                     Ent.mk (Loc.blk b6) (SObj.cells [SV.int IntKind.i64 x.1, SV.int IntKind.i64 x.2, SV.str x.3] (105 : TypeId)), pkA bt grpE s, pkA br rgE r,
                     Ent.mk (Loc.blk b) (SObj.cells [SV.int IntKind.i64 (0 : Int)] 3), Ent.mk (Loc.blk b_1) (SObj.cells [SV.bool true] 4),
                     Ent.mk (Loc.blk b_2) (SObj.cells [SV.ptr 3 bt 0] 25)]
                    lR =
                    some (pkA bR rgE r_1) ∧
                    some (Ent.mk (Loc.blk b_2) (SObj.cells [SV.ptr 3 bt 0] 25)) =
                     some (Ent.mk (Loc.blk b_2) (SObj.cells [SV.ptr lg bg 0] (25 : TypeId))) ∧
                     nth
                      [Ent.mk (Loc.sl ao cap) (SObj.roL 3 encStep9 bs (Step9.mk (0 : Int) (0 : Int) (ByteArray.mk #[]))),
                       Ent.mk (Loc.blk bc) (SObj.cells [SV.ptr 4 br 0] (100 : TypeId)),
                       Ent.mk (Loc.blk b6) (SObj.cells [SV.int IntKind.i64 x.1, SV.int IntKind.i64 x.2, SV.str x.3] (105 : TypeId)), pkA bt grpE s, pkA br rgE r,
                       Ent.mk (Loc.blk b) (SObj.cells [SV.int IntKind.i64 (0 : Int)] 3), Ent.mk (Loc.blk b_1) (SObj.cells [SV.bool true] 4),
                       Ent.mk (Loc.blk b_2) (SObj.cells [SV.ptr 3 bt 0] 25)]
                      lg =
                      some (pkA bg grpE s_1) ∧
                      distinct [lg, 7, 6, 5, 1, lR] = true ∧
                       (GL s_1 r_1 k ∧ k ≤ 1000) ∧
                        K (frmR [J0] (bodyOf Try.f11) 37)
                         (Sy.mk (SV.vec 0 ao (List.length bs) cap :: (SV.raw (u 1) :: (SV.raw (u 2) :: (SV.ptr 3 bt 0 :: (SV.ptr 1 bc 0 :: (SV.int IntKind.i64 (↑i : Int) :: (SV.ptr 2 b6 0 :: (rawR u 7 (SV.ptr 5 b 0 :: (SV.ptr 6 b_1 0 :: (rawR u 19 (SV.ptr 3 bt 0 :: (SV.func (Fn.func 93) [] [SV.ptr 7 b_2 0] :: (SV.func (Fn.func 69) [] [SV.ptr 6 b_1 0, SV.ptr 5 b 0, SV.ptr 1 bc 0] :: (SV.tuple [] :: (rawR u 152 [] 11))))) 129))) 10))))))))
                          [Ent.mk (Loc.sl ao cap) (SObj.roL 3 encStep9 bs (Step9.mk (0 : Int) (0 : Int) (ByteArray.mk #[]))),
                           Ent.mk (Loc.blk bc) (SObj.cells [SV.ptr 4 br 0] (100 : TypeId)),
                           Ent.mk (Loc.blk b6) (SObj.cells [SV.int IntKind.i64 x.1, SV.int IntKind.i64 x.2, SV.str x.3] (105 : TypeId)), pkA bt grpE s, pkA br rgE r,
                           Ent.mk (Loc.blk b) (SObj.cells [SV.int IntKind.i64 (↑(List.length r_1.3) : Int)] (3 : TypeId)),
                           Ent.mk (Loc.blk b_1) (SObj.cells [SV.bool true] 4), Ent.mk (Loc.blk b_2) (SObj.cells [SV.ptr 3 bt 0] 25)])) := by kernel_rfl


theorem gp_37 (K : List Frm → Sy → Prop) (N : List Ent → SV → Prop) (J0 : Act → World → Prop) (ao : Option Addr) (cap : Nat) (bs : List Step9) (bt br bc : Nat) (s : Grp) (r : RG) (i : Nat) (x : Step9) (b6 : Nat) (b17 b18 : Nat) (u : Nat → Value) : (run Try.prog gpT false [] K (retP Try.prog Try.f11.results.toList N) 2000 (frmR [J0] (bodyOf Try.f11) 37) ⟨mkT u 163 0 [(0, .vec 0 ao bs.length cap), (3, .ptr 3 bt 0), (4, .ptr 1 bc 0), (5, .int .i64 (i : Int)), (17, .ptr 4 b17 0), (18, .ptr 9 b18 0)], [⟨.sl ao cap, .roL 3 encStep9 bs Step9.zero⟩, ⟨.blk bc, .cells [.ptr 5 br 0] 100⟩, ⟨.blk b6, .cells (encStep9 x) 105⟩, pkA bt grpE s, ⟨.blk b17, .cells [.int .i64 (r.L.length : Int)] 3⟩, ⟨.blk br, .cells [.vec 6 r.aoL r.L.length r.capL, .vec 7 r.aoN r.notes.length r.capN] 103⟩, ⟨.sl r.aoL r.capL, .vecL 112 2 encR r.L zR⟩, ⟨.sl r.aoN r.capN, .vecL 9 1 encS r.notes ByteArray.empty⟩, pk 0 (r.L.map pidE), ⟨.blk b18, .cells [.bool true] 4⟩]⟩) = (
b18 = b18 ∧
 b17 = b17 ∧
  bc = bc ∧
   br = br ∧
    match (↑(List.length r.3) : Int) != (↑(List.length r.3) : Int) with
    | true =>
     N
      [Ent.mk (Loc.sl ao cap) (SObj.roL 3 encStep9 bs (Step9.mk (0 : Int) (0 : Int) (ByteArray.mk #[]))), Ent.mk (Loc.blk bc) (SObj.cells [SV.ptr 5 br 0] (100 : TypeId)),
       Ent.mk (Loc.blk b6) (SObj.cells [SV.int IntKind.i64 x.1, SV.int IntKind.i64 x.2, SV.str x.3] (105 : TypeId)), pkA bt grpE s,
       Ent.mk (Loc.blk b17) (SObj.cells [SV.int IntKind.i64 (↑(List.length r.3) : Int)] (3 : TypeId)),
       Ent.mk (Loc.blk br) (SObj.cells [SV.vec 6 r.aoL (List.length r.3) r.2, SV.vec 7 r.aoN (List.length r.6) r.5] (103 : TypeId)),
       Ent.mk (Loc.sl r.aoL r.2) (SObj.vecL (112 : TypeId) 2 encR r.3 (RGrp.mk (ByteArray.mk #[]) (@none Addr) 0 [])),
       Ent.mk (Loc.sl r.aoN r.5) (SObj.vecL (9 : TypeId) 1 encS r.6 ByteArray.empty), pk 0 (List.map pidE r.3), Ent.mk (Loc.blk b18) (SObj.cells [SV.bool true] (4 : TypeId))]
      (SV.bool false)
    | false =>
     K (Frm.loop J0 :: Frm.blk 0 :: frm [] (bodyOf Try.f11) [1, 1, 1, 1, 1] [])
      (Sy.mk (SV.vec 0 ao (List.length bs) cap :: (SV.raw (u 1) :: (SV.raw (u 2) :: (SV.ptr 3 bt 0 :: (SV.ptr 1 bc 0 :: (SV.int IntKind.i64 (IntKind.wrap IntKind.i64 ((↑i : Int) + (1 : Int))) :: (rawR u 6 (SV.ptr 4 b17 0 :: (SV.ptr 9 b18 0 :: (rawR u 19 (SV.int IntKind.i64 (↑i : Int) :: (SV.int IntKind.i64 (IntKind.wrap IntKind.i64 ((↑i : Int) + (1 : Int))) :: (rawR u 33 (SV.bool true :: (SV.bool false :: (SV.bool false :: (SV.int IntKind.i64 (↑(List.length r.3) : Int) :: (SV.ptr 5 br 0 :: (SV.ptr 5 br 0 :: (SV.ptr 5 br 0 :: (SV.vec 6 r.aoL (List.length r.3) r.2 :: (SV.int IntKind.i64 (↑(List.length r.3) : Int) :: ((SV.bool ((↑(List.length r.3) : Int) != (↑(List.length r.3) : Int))) :: (SV.bool false :: []))))))))))) 119))) 12))) 11)))))))
       [Ent.mk (Loc.sl ao cap) (SObj.roL 3 encStep9 bs (Step9.mk (0 : Int) (0 : Int) (ByteArray.mk #[]))),
        Ent.mk (Loc.blk bc) (SObj.cells [SV.ptr 5 br 0] (100 : TypeId)),
        Ent.mk (Loc.blk b6) (SObj.cells [SV.int IntKind.i64 x.1, SV.int IntKind.i64 x.2, SV.str x.3] (105 : TypeId)), pkA bt grpE s,
        Ent.mk (Loc.blk b17) (SObj.cells [SV.int IntKind.i64 (↑(List.length r.3) : Int)] (3 : TypeId)),
        Ent.mk (Loc.blk br) (SObj.cells [SV.vec 6 r.aoL (List.length r.3) r.2, SV.vec 7 r.aoN (List.length r.6) r.5] (103 : TypeId)),
        Ent.mk (Loc.sl r.aoL r.2) (SObj.vecL (112 : TypeId) 2 encR r.3 (RGrp.mk (ByteArray.mk #[]) (@none Addr) 0 [])),
        Ent.mk (Loc.sl r.aoN r.5) (SObj.vecL (9 : TypeId) 1 encS r.6 ByteArray.empty), pk 0 (List.map pidE r.3), Ent.mk (Loc.blk b18) (SObj.cells [SV.bool true] (4 : TypeId))])) := by kernel_rfl
end Go.Proofs.Ytihajdkipkfiiaa

/- YtihajdkipkfiiaaGp2Run -/
namespace Go.Proofs.Ytihajdkipkfiiaa
set_option linter.unusedVariables false
open Go Go.RowKit
set_option maxHeartbeats 0
set_option maxRecDepth 100000
set_option linter.unusedVariables false
set_option maxRecDepth 100000

theorem gp1_run (K : List Frm → Sy → Prop) (N : List Ent → SV → Prop) (aoL : Option Addr) (capL : Nat) (L : List RGrp) (aoN : Option Addr) (capN : Nat) (nt : List ByteArray) (b : Nat) (rest : List Ent) (i : Nat) (g : RGrp) (n : ByteArray) (ms : List Int) (am : Option Addr) (cm bo ba br : Nat) : (run Try.prog [(17, intsC)] true [] K (retP Try.prog Try.f69.results.toList N) 900 [.code (bodyOf Try.f69)] ⟨padTo 45 [.str n, .vec 8 am ms.length cm, .ptr 5 bo 0, .ptr 6 ba 0, .ptr 7 br 0], [⟨.blk b, .cells [.vec 1 aoL (L).length capL, .vec 2 aoN (nt).length capN] 103⟩, ⟨.sl aoL capL, .vecL 112 2 encR (L) zR⟩, ⟨.sl aoN capN, .vecL 9 1 encS (nt) ByteArray.empty⟩, pk 0 rest, ⟨.sl g.ao g.cap, .vecL 3 1 encI1 g.pids 0⟩, ⟨.blk bo, .cells [.bool true] 4⟩, ⟨.blk ba, .cells [.int .i64 (i : Int)] 3⟩, ⟨.blk br, .cells [.ptr 0 b 0] 100⟩, ⟨.sl am cm, .vecL 3 1 encI1 ms 0⟩]⟩) = (
bo = bo ∧
 ba = ba ∧
  br = br ∧
   b = b ∧
    match decide ((↑i : Int) < (↑(List.length L) : Int)) with
    | true =>
     br = br ∧
      b = b ∧
       ba = ba ∧
        (aoL = aoL ∧ capL = capL ∧ List.length L = List.length L ∧ (0 : Int) ≤ (↑i : Int) ∧ (↑i : Int) < (↑(List.length L) : Int)) ∧
         (Addr.blkD aoL = Addr.blkD aoL ∧ Addr.offD aoL = Addr.offD aoL ∧ 2 = 2 ∧ Int.toNat (↑i : Int) < List.length L) ∧
          match sEq (List.getD L (Int.toNat (↑i : Int)) (RGrp.mk (ByteArray.mk #[]) (@none Addr) 0 [])).1 n with
          | true =>
           br = br ∧
            b = b ∧
             ba = ba ∧
              (aoL = aoL ∧ capL = capL ∧ List.length L = List.length L ∧ (0 : Int) ≤ (↑i : Int) ∧ (↑i : Int) < (↑(List.length L) : Int)) ∧
               (Addr.blkD aoL = Addr.blkD aoL ∧ Addr.offD aoL = Addr.offD aoL ∧ 2 = 2 ∧ Int.toNat (↑i : Int) < List.length L) ∧
                true = true ∧
                 ∃ (xs : List Int),
                  some (Ent.mk (Loc.sl am cm) (SObj.vecL (3 : TypeId) 1 encI1 ms (0 : Int))) =
                   some (Ent.mk (Loc.sl am cm) (SObj.vecL (3 : TypeId) 1 encI1 xs (0 : Int))) ∧
                   some (Ent.mk (Loc.sl g.ao g.3) (SObj.vecL (3 : TypeId) 1 encI1 g.4 (0 : Int))) =
                    some
                     (Ent.mk
                      (Loc.sl (List.getD L (Int.toNat (↑i : Int)) (RGrp.mk (ByteArray.mk #[]) (@none Addr) 0 [])).ao
                       (List.getD L (Int.toNat (↑i : Int)) (RGrp.mk (ByteArray.mk #[]) (@none Addr) 0 [])).3)
                      (SObj.vecL (3 : TypeId) 1 encI1 xs (0 : Int))) ∧
                    (false = false ∧
                     List.length ms = List.length xs ∧
                      List.length (List.getD L (Int.toNat (↑i : Int)) (RGrp.mk (ByteArray.mk #[]) (@none Addr) 0 [])).4 = List.length xs ∧
                       List.length xs ≤ 1000000) ∧
                     (Ent.mk (Loc.blk b) (SObj.cells [SV.vec 1 aoL (List.length L) capL, SV.vec 2 aoN (List.length nt) capN] (103 : TypeId)) =
                      Ent.mk (Loc.blk b) (SObj.cells [SV.vec 1 aoL (List.length L) capL, SV.vec 2 aoN (List.length nt) capN] (103 : TypeId)) ∧
                      Ent.mk (Loc.sl aoL capL) (SObj.vecL (112 : TypeId) 2 encR L (RGrp.mk (ByteArray.mk #[]) (@none Addr) 0 [])) =
                       Ent.mk (Loc.sl aoL capL) (SObj.vecL (112 : TypeId) 2 encR L (RGrp.mk (ByteArray.mk #[]) (@none Addr) 0 [])) ∧
                       Ent.mk (Loc.sl aoN capN) (SObj.vecL (9 : TypeId) 1 encS nt ByteArray.empty) =
                        Ent.mk (Loc.sl aoN capN) (SObj.vecL (9 : TypeId) 1 encS nt ByteArray.empty) ∧
                        pk 0 rest = pk 0 rest ∧
                         Ent.mk (Loc.sl g.ao g.3) (SObj.vecL (3 : TypeId) 1 encI1 g.4 (0 : Int)) =
                          Ent.mk (Loc.sl g.ao g.3) (SObj.vecL (3 : TypeId) 1 encI1 g.4 (0 : Int)) ∧
                          Ent.mk (Loc.blk bo) (SObj.cells [SV.bool true] (4 : TypeId)) = Ent.mk (Loc.blk bo) (SObj.cells [SV.bool true] (4 : TypeId)) ∧
                           Ent.mk (Loc.blk ba) (SObj.cells [SV.int IntKind.i64 (↑i : Int)] (3 : TypeId)) =
                            Ent.mk (Loc.blk ba) (SObj.cells [SV.int IntKind.i64 (↑i : Int)] (3 : TypeId)) ∧
                            Ent.mk (Loc.blk br) (SObj.cells [SV.ptr 0 b 0] (100 : TypeId)) =
                             Ent.mk (Loc.blk br) (SObj.cells [SV.ptr 0 b 0] (100 : TypeId)) ∧
                             Ent.mk (Loc.sl am cm) (SObj.vecL (3 : TypeId) 1 encI1 ms (0 : Int)) =
                              Ent.mk (Loc.sl am cm) (SObj.vecL (3 : TypeId) 1 encI1 ms (0 : Int)) ∧
                              True) ∧
                      (bo = bo ∧ true = true ∧ 1 = 1 ∧ 1 ≤ 1) ∧
                       (Ent.mk (Loc.blk b) (SObj.cells [SV.vec 1 aoL (List.length L) capL, SV.vec 2 aoN (List.length nt) capN] (103 : TypeId)) =
                        Ent.mk (Loc.blk b) (SObj.cells [SV.vec 1 aoL (List.length L) capL, SV.vec 2 aoN (List.length nt) capN] (103 : TypeId)) ∧
                        Ent.mk (Loc.sl aoL capL) (SObj.vecL (112 : TypeId) 2 encR L (RGrp.mk (ByteArray.mk #[]) (@none Addr) 0 [])) =
                         Ent.mk (Loc.sl aoL capL) (SObj.vecL (112 : TypeId) 2 encR L (RGrp.mk (ByteArray.mk #[]) (@none Addr) 0 [])) ∧
                         Ent.mk (Loc.sl aoN capN) (SObj.vecL (9 : TypeId) 1 encS nt ByteArray.empty) =
                          Ent.mk (Loc.sl aoN capN) (SObj.vecL (9 : TypeId) 1 encS nt ByteArray.empty) ∧
                          pk 0 rest = pk 0 rest ∧
                           Ent.mk (Loc.sl g.ao g.3) (SObj.vecL (3 : TypeId) 1 encI1 g.4 (0 : Int)) =
                            Ent.mk (Loc.sl g.ao g.3) (SObj.vecL (3 : TypeId) 1 encI1 g.4 (0 : Int)) ∧
                            Ent.mk (Loc.blk bo) (SObj.cells [SV.bool true] (4 : TypeId)) = Ent.mk (Loc.blk bo) (SObj.cells [SV.bool true] (4 : TypeId)) ∧
                             Ent.mk (Loc.blk ba) (SObj.cells [SV.int IntKind.i64 (↑i : Int)] (3 : TypeId)) =
                              Ent.mk (Loc.blk ba) (SObj.cells [SV.int IntKind.i64 (↑i : Int)] (3 : TypeId)) ∧
                              Ent.mk (Loc.blk br) (SObj.cells [SV.ptr 0 b 0] (100 : TypeId)) =
                               Ent.mk (Loc.blk br) (SObj.cells [SV.ptr 0 b 0] (100 : TypeId)) ∧
                               Ent.mk (Loc.sl am cm) (SObj.vecL (3 : TypeId) 1 encI1 ms (0 : Int)) =
                                Ent.mk (Loc.sl am cm) (SObj.vecL (3 : TypeId) 1 encI1 ms (0 : Int)) ∧
                                True) ∧
                        ba = ba ∧
                         (ba = ba ∧ true = true ∧ 1 = 1 ∧ 1 ≤ 1) ∧
                          bo = bo ∧
                           N
                            [Ent.mk (Loc.blk b) (SObj.cells [SV.vec 1 aoL (List.length L) capL, SV.vec 2 aoN (List.length nt) capN] (103 : TypeId)),
                             Ent.mk (Loc.sl aoL capL) (SObj.vecL (112 : TypeId) 2 encR L (RGrp.mk (ByteArray.mk #[]) (@none Addr) 0 [])),
                             Ent.mk (Loc.sl aoN capN) (SObj.vecL (9 : TypeId) 1 encS nt ByteArray.empty), pk 0 rest,
                             Ent.mk (Loc.sl g.ao g.3) (SObj.vecL (3 : TypeId) 1 encI1 g.4 (0 : Int)), Ent.mk (Loc.blk bo) (SObj.cells [SV.bool true] (4 : TypeId)),
                             Ent.mk (Loc.blk ba) (SObj.cells [SV.int IntKind.i64 (IntKind.wrap IntKind.i64 ((↑i : Int) + (1 : Int)))] (3 : TypeId)),
                             Ent.mk (Loc.blk br) (SObj.cells [SV.ptr 0 b 0] (100 : TypeId)),
                             Ent.mk (Loc.sl am cm) (SObj.vecL (3 : TypeId) 1 encI1 ms (0 : Int))]
                            (SV.bool true)
          | false =>
           (Ent.mk (Loc.blk b) (SObj.cells [SV.vec 1 aoL (List.length L) capL, SV.vec 2 aoN (List.length nt) capN] (103 : TypeId)) =
            Ent.mk (Loc.blk b) (SObj.cells [SV.vec 1 aoL (List.length L) capL, SV.vec 2 aoN (List.length nt) capN] (103 : TypeId)) ∧
            Ent.mk (Loc.sl aoL capL) (SObj.vecL (112 : TypeId) 2 encR L (RGrp.mk (ByteArray.mk #[]) (@none Addr) 0 [])) =
             Ent.mk (Loc.sl aoL capL) (SObj.vecL (112 : TypeId) 2 encR L (RGrp.mk (ByteArray.mk #[]) (@none Addr) 0 [])) ∧
             Ent.mk (Loc.sl aoN capN) (SObj.vecL (9 : TypeId) 1 encS nt ByteArray.empty) = Ent.mk (Loc.sl aoN capN) (SObj.vecL (9 : TypeId) 1 encS nt ByteArray.empty) ∧
              pk 0 rest = pk 0 rest ∧
               Ent.mk (Loc.sl g.ao g.3) (SObj.vecL (3 : TypeId) 1 encI1 g.4 (0 : Int)) = Ent.mk (Loc.sl g.ao g.3) (SObj.vecL (3 : TypeId) 1 encI1 g.4 (0 : Int)) ∧
                Ent.mk (Loc.blk bo) (SObj.cells [SV.bool true] (4 : TypeId)) = Ent.mk (Loc.blk bo) (SObj.cells [SV.bool true] (4 : TypeId)) ∧
                 Ent.mk (Loc.blk ba) (SObj.cells [SV.int IntKind.i64 (↑i : Int)] (3 : TypeId)) = Ent.mk (Loc.blk ba) (SObj.cells [SV.int IntKind.i64 (↑i : Int)] (3 : TypeId)) ∧
                  Ent.mk (Loc.blk br) (SObj.cells [SV.ptr 0 b 0] (100 : TypeId)) = Ent.mk (Loc.blk br) (SObj.cells [SV.ptr 0 b 0] (100 : TypeId)) ∧
                   Ent.mk (Loc.sl am cm) (SObj.vecL (3 : TypeId) 1 encI1 ms (0 : Int)) = Ent.mk (Loc.sl am cm) (SObj.vecL (3 : TypeId) 1 encI1 ms (0 : Int)) ∧
                    True) ∧
            (bo = bo ∧ true = true ∧ 1 = 1 ∧ 1 ≤ 1) ∧
             (Ent.mk (Loc.blk b) (SObj.cells [SV.vec 1 aoL (List.length L) capL, SV.vec 2 aoN (List.length nt) capN] (103 : TypeId)) =
              Ent.mk (Loc.blk b) (SObj.cells [SV.vec 1 aoL (List.length L) capL, SV.vec 2 aoN (List.length nt) capN] (103 : TypeId)) ∧
              Ent.mk (Loc.sl aoL capL) (SObj.vecL (112 : TypeId) 2 encR L (RGrp.mk (ByteArray.mk #[]) (@none Addr) 0 [])) =
               Ent.mk (Loc.sl aoL capL) (SObj.vecL (112 : TypeId) 2 encR L (RGrp.mk (ByteArray.mk #[]) (@none Addr) 0 [])) ∧
               Ent.mk (Loc.sl aoN capN) (SObj.vecL (9 : TypeId) 1 encS nt ByteArray.empty) =
                Ent.mk (Loc.sl aoN capN) (SObj.vecL (9 : TypeId) 1 encS nt ByteArray.empty) ∧
                pk 0 rest = pk 0 rest ∧
                 Ent.mk (Loc.sl g.ao g.3) (SObj.vecL (3 : TypeId) 1 encI1 g.4 (0 : Int)) = Ent.mk (Loc.sl g.ao g.3) (SObj.vecL (3 : TypeId) 1 encI1 g.4 (0 : Int)) ∧
                  Ent.mk (Loc.blk bo) (SObj.cells [SV.bool false] (4 : TypeId)) = Ent.mk (Loc.blk bo) (SObj.cells [SV.bool true] (4 : TypeId)) ∧
                   Ent.mk (Loc.blk ba) (SObj.cells [SV.int IntKind.i64 (↑i : Int)] (3 : TypeId)) = Ent.mk (Loc.blk ba) (SObj.cells [SV.int IntKind.i64 (↑i : Int)] (3 : TypeId)) ∧
                    Ent.mk (Loc.blk br) (SObj.cells [SV.ptr 0 b 0] (100 : TypeId)) =
                     Ent.mk (Loc.blk br) (SObj.cells [SV.ptr 0 b 0] (100 : TypeId)) ∧
                     Ent.mk (Loc.sl am cm) (SObj.vecL (3 : TypeId) 1 encI1 ms (0 : Int)) = Ent.mk (Loc.sl am cm) (SObj.vecL (3 : TypeId) 1 encI1 ms (0 : Int)) ∧
                      True) ∧
              ba = ba ∧
               (ba = ba ∧ true = true ∧ 1 = 1 ∧ 1 ≤ 1) ∧
                bo = bo ∧
                 N
                  [Ent.mk (Loc.blk b) (SObj.cells [SV.vec 1 aoL (List.length L) capL, SV.vec 2 aoN (List.length nt) capN] (103 : TypeId)),
                   Ent.mk (Loc.sl aoL capL) (SObj.vecL (112 : TypeId) 2 encR L (RGrp.mk (ByteArray.mk #[]) (@none Addr) 0 [])),
                   Ent.mk (Loc.sl aoN capN) (SObj.vecL (9 : TypeId) 1 encS nt ByteArray.empty), pk 0 rest,
                   Ent.mk (Loc.sl g.ao g.3) (SObj.vecL (3 : TypeId) 1 encI1 g.4 (0 : Int)), Ent.mk (Loc.blk bo) (SObj.cells [SV.bool false] (4 : TypeId)),
                   Ent.mk (Loc.blk ba) (SObj.cells [SV.int IntKind.i64 (IntKind.wrap IntKind.i64 ((↑i : Int) + (1 : Int)))] (3 : TypeId)),
                   Ent.mk (Loc.blk br) (SObj.cells [SV.ptr 0 b 0] (100 : TypeId)), Ent.mk (Loc.sl am cm) (SObj.vecL (3 : TypeId) 1 encI1 ms (0 : Int))]
                  (SV.bool false)
    | false =>
     (Ent.mk (Loc.blk b) (SObj.cells [SV.vec 1 aoL (List.length L) capL, SV.vec 2 aoN (List.length nt) capN] (103 : TypeId)) =
      Ent.mk (Loc.blk b) (SObj.cells [SV.vec 1 aoL (List.length L) capL, SV.vec 2 aoN (List.length nt) capN] (103 : TypeId)) ∧
      Ent.mk (Loc.sl aoL capL) (SObj.vecL (112 : TypeId) 2 encR L (RGrp.mk (ByteArray.mk #[]) (@none Addr) 0 [])) =
       Ent.mk (Loc.sl aoL capL) (SObj.vecL (112 : TypeId) 2 encR L (RGrp.mk (ByteArray.mk #[]) (@none Addr) 0 [])) ∧
       Ent.mk (Loc.sl aoN capN) (SObj.vecL (9 : TypeId) 1 encS nt ByteArray.empty) = Ent.mk (Loc.sl aoN capN) (SObj.vecL (9 : TypeId) 1 encS nt ByteArray.empty) ∧
        pk 0 rest = pk 0 rest ∧
         Ent.mk (Loc.sl g.ao g.3) (SObj.vecL (3 : TypeId) 1 encI1 g.4 (0 : Int)) = Ent.mk (Loc.sl g.ao g.3) (SObj.vecL (3 : TypeId) 1 encI1 g.4 (0 : Int)) ∧
          Ent.mk (Loc.blk bo) (SObj.cells [SV.bool true] (4 : TypeId)) = Ent.mk (Loc.blk bo) (SObj.cells [SV.bool true] (4 : TypeId)) ∧
           Ent.mk (Loc.blk ba) (SObj.cells [SV.int IntKind.i64 (↑i : Int)] (3 : TypeId)) = Ent.mk (Loc.blk ba) (SObj.cells [SV.int IntKind.i64 (↑i : Int)] (3 : TypeId)) ∧
            Ent.mk (Loc.blk br) (SObj.cells [SV.ptr 0 b 0] (100 : TypeId)) = Ent.mk (Loc.blk br) (SObj.cells [SV.ptr 0 b 0] (100 : TypeId)) ∧
             Ent.mk (Loc.sl am cm) (SObj.vecL (3 : TypeId) 1 encI1 ms (0 : Int)) = Ent.mk (Loc.sl am cm) (SObj.vecL (3 : TypeId) 1 encI1 ms (0 : Int)) ∧ True) ∧
      (bo = bo ∧ true = true ∧ 1 = 1 ∧ 1 ≤ 1) ∧
       (Ent.mk (Loc.blk b) (SObj.cells [SV.vec 1 aoL (List.length L) capL, SV.vec 2 aoN (List.length nt) capN] (103 : TypeId)) =
        Ent.mk (Loc.blk b) (SObj.cells [SV.vec 1 aoL (List.length L) capL, SV.vec 2 aoN (List.length nt) capN] (103 : TypeId)) ∧
        Ent.mk (Loc.sl aoL capL) (SObj.vecL (112 : TypeId) 2 encR L (RGrp.mk (ByteArray.mk #[]) (@none Addr) 0 [])) =
         Ent.mk (Loc.sl aoL capL) (SObj.vecL (112 : TypeId) 2 encR L (RGrp.mk (ByteArray.mk #[]) (@none Addr) 0 [])) ∧
         Ent.mk (Loc.sl aoN capN) (SObj.vecL (9 : TypeId) 1 encS nt ByteArray.empty) = Ent.mk (Loc.sl aoN capN) (SObj.vecL (9 : TypeId) 1 encS nt ByteArray.empty) ∧
          pk 0 rest = pk 0 rest ∧
           Ent.mk (Loc.sl g.ao g.3) (SObj.vecL (3 : TypeId) 1 encI1 g.4 (0 : Int)) = Ent.mk (Loc.sl g.ao g.3) (SObj.vecL (3 : TypeId) 1 encI1 g.4 (0 : Int)) ∧
            Ent.mk (Loc.blk bo) (SObj.cells [SV.bool false] (4 : TypeId)) = Ent.mk (Loc.blk bo) (SObj.cells [SV.bool true] (4 : TypeId)) ∧
             Ent.mk (Loc.blk ba) (SObj.cells [SV.int IntKind.i64 (↑i : Int)] (3 : TypeId)) = Ent.mk (Loc.blk ba) (SObj.cells [SV.int IntKind.i64 (↑i : Int)] (3 : TypeId)) ∧
              Ent.mk (Loc.blk br) (SObj.cells [SV.ptr 0 b 0] (100 : TypeId)) = Ent.mk (Loc.blk br) (SObj.cells [SV.ptr 0 b 0] (100 : TypeId)) ∧
               Ent.mk (Loc.sl am cm) (SObj.vecL (3 : TypeId) 1 encI1 ms (0 : Int)) = Ent.mk (Loc.sl am cm) (SObj.vecL (3 : TypeId) 1 encI1 ms (0 : Int)) ∧ True) ∧
        ba = ba ∧
         (ba = ba ∧ true = true ∧ 1 = 1 ∧ 1 ≤ 1) ∧
          bo = bo ∧
           N
            [Ent.mk (Loc.blk b) (SObj.cells [SV.vec 1 aoL (List.length L) capL, SV.vec 2 aoN (List.length nt) capN] (103 : TypeId)),
             Ent.mk (Loc.sl aoL capL) (SObj.vecL (112 : TypeId) 2 encR L (RGrp.mk (ByteArray.mk #[]) (@none Addr) 0 [])),
             Ent.mk (Loc.sl aoN capN) (SObj.vecL (9 : TypeId) 1 encS nt ByteArray.empty), pk 0 rest,
             Ent.mk (Loc.sl g.ao g.3) (SObj.vecL (3 : TypeId) 1 encI1 g.4 (0 : Int)), Ent.mk (Loc.blk bo) (SObj.cells [SV.bool false] (4 : TypeId)),
             Ent.mk (Loc.blk ba) (SObj.cells [SV.int IntKind.i64 (IntKind.wrap IntKind.i64 ((↑i : Int) + (1 : Int)))] (3 : TypeId)),
             Ent.mk (Loc.blk br) (SObj.cells [SV.ptr 0 b 0] (100 : TypeId)), Ent.mk (Loc.sl am cm) (SObj.vecL (3 : TypeId) 1 encI1 ms (0 : Int))]
            (SV.bool false)) := by kernel_rfl
end Go.Proofs.Ytihajdkipkfiiaa

/- YtihajdkipkfiiaaGo1Run -/
namespace Go.Proofs.Ytihajdkipkfiiaa
set_option linter.unusedVariables false
open Go Go.RowKit
set_option maxHeartbeats 0
set_option maxRecDepth 100000
set_option allowUnsafeReducibility true
set_option maxRecDepth 100000

theorem gMem_some (K : List Frm → Sy → Prop) (N : List Ent → SV → Prop) (s : Grp) (b nb : Nat) (n : ByteArray) (ms : List (Key × Unit)) (rest : List Ent) : (run Try.prog gTm true [] K (retP Try.prog Try.f18.results.toList N) 600 [.code (bodyOf Try.f18)] ⟨padTo 12 [.ptr 0 b 0, .str n], [⟨.blk b, .cells [.map 1 s.bg, .map 2 s.bo, .vec 3 s.ao s.notes.length s.cap] 118⟩, ⟨.blk s.bg, .map1 none encG s.gs (.s n) (some (.map 4 nb))⟩, ⟨.blk s.bo, .mapL (some .i64) encO s.of⟩, ⟨.sl s.ao s.cap, .vecL 9 1 encS s.notes ByteArray.empty⟩, ⟨.blk nb, .mapL (some .i64) encU ms⟩, pk 0 rest]⟩) = (
b = b ∧
 (s.1 = s.1 ∧ Key.s n = Key.s n ∧ @none IntKind = @none IntKind) ∧
  true = true ∧
   true = true ∧
    true = true ∧
     ∀ (b_1 : Nat),
      true = true ∧
       110 = 110 ∧
        (b_1 = b_1 ∧ nb = nb ∧ some IntKind.i64 = some IntKind.i64 ∧ wfI ms) ∧
         ∀ (ao : Option Addr) (cap : Nat),
          N
           [Ent.mk (Loc.blk b) (SObj.cells [SV.map 1 s.1, SV.map 2 s.2, SV.vec 3 s.ao (List.length s.7) s.4] (118 : TypeId)),
            Ent.mk (Loc.blk s.1) (SObj.map1 (@none IntKind) encG s.5 (Key.s n) (some (SV.map 4 nb))), Ent.mk (Loc.blk s.2) (SObj.mapL (some IntKind.i64) encO s.6),
            Ent.mk (Loc.sl s.ao s.4) (SObj.vecL (9 : TypeId) 1 encS s.7 ByteArray.empty), Ent.mk (Loc.blk nb) (SObj.mapL (some IntKind.i64) encU ms), pk 0 rest,
            Ent.mk (Loc.blk b_1) (SObj.cells [SV.map 4 nb] 120), Ent.mk (Loc.sl ao cap) (SObj.vecL 3 1 encI1 (sortI ms) (0 : Int))]
           (SV.vec 7 ao (List.length (sortI ms)) cap)) := by kernel_rfl


theorem ints_run (K : List Frm → Sy → Prop) (N : List Ent → SV → Prop) (xs : List Int) (ao ao' : Option Addr) (cap cap' : Nat) : (run Try.prog [] false [] K (retP Try.prog Try.f17.results.toList N) 600 [.code (bodyOf Try.f17)] ⟨padTo 26 [.vec 0 ao xs.length cap, .vec 1 ao' xs.length cap'], [⟨.sl ao cap, .vecL 3 1 encI1 xs 0⟩, ⟨.sl ao' cap', .vecL 3 1 encI1 xs 0⟩]⟩) = (
match (↑(List.length xs) : Int) != (↑(List.length xs) : Int) with
| true => N [Ent.mk (Loc.sl ao cap) (SObj.vecL (3 : TypeId) 1 encI1 xs (0 : Int)), Ent.mk (Loc.sl ao' cap') (SObj.vecL (3 : TypeId) 1 encI1 xs (0 : Int))] (SV.bool false)
| false =>
 K (frm [] (bodyOf Try.f17) [1, 1, 0, 1, 0] [])
  (Sy.mk (SV.vec 0 ao (List.length xs) cap :: (SV.vec 1 ao' (List.length xs) cap' :: (SV.raw (Value.tuple #[]) :: (SV.raw (Value.tuple #[]) :: (SV.bool false :: (SV.int IntKind.i64 (0 : Int) :: (SV.vec 0 ao (List.length xs) cap :: (SV.int IntKind.i64 (↑(List.length xs) : Int) :: (SV.vec 1 ao' (List.length xs) cap' :: (SV.int IntKind.i64 (↑(List.length xs) : Int) :: (SV.bool false :: (rawE [] 15))))))))))))
   [Ent.mk (Loc.sl ao cap) (SObj.vecL (3 : TypeId) 1 encI1 xs (0 : Int)), Ent.mk (Loc.sl ao' cap') (SObj.vecL (3 : TypeId) 1 encI1 xs (0 : Int))])) := by kernel_rfl


theorem ints_body (K : List Frm → Sy → Prop) (N : List Ent → SV → Prop) (J : Act → World → Prop) (xs : List Int) (ao ao' : Option Addr) (cap cap' : Nat) (i : Nat) (u : Nat → Value) : (run Try.prog [] false [] K (retP Try.prog Try.f17.results.toList N) 900 (frm [J] (bodyOf Try.f17) [1, 1, 0, 1, 0, 0] []) ⟨mkT u 26 0 [(0, .vec 0 ao xs.length cap), (1, .vec 1 ao' xs.length cap'), (5, .int .i64 (i : Int))], [⟨.sl ao cap, .vecL 3 1 encI1 xs 0⟩, ⟨.sl ao' cap', .vecL 3 1 encI1 xs 0⟩]⟩) = (
match decide ((↑i : Int) < (↑(List.length xs) : Int)) with
| true =>
 (ao = ao ∧ cap = cap ∧ List.length xs = List.length xs ∧ (0 : Int) ≤ (↑i : Int) ∧ (↑i : Int) < (↑(List.length xs) : Int)) ∧
  (Addr.blkD ao = Addr.blkD ao ∧ Addr.offD ao = Addr.offD ao ∧ 1 = 1 ∧ Int.toNat (↑i : Int) < List.length xs) ∧
   (ao' = ao' ∧ cap' = cap' ∧ List.length xs = List.length xs ∧ (0 : Int) ≤ (↑i : Int) ∧ (↑i : Int) < (↑(List.length xs) : Int)) ∧
    (Addr.blkD ao' = Addr.blkD ao' ∧ Addr.offD ao' = Addr.offD ao' ∧ 1 = 1 ∧ Int.toNat (↑i : Int) < List.length xs) ∧
     match List.getD xs (Int.toNat (↑i : Int)) (0 : Int) != List.getD xs (Int.toNat (↑i : Int)) (0 : Int) with
     | true => N [Ent.mk (Loc.sl ao cap) (SObj.vecL (3 : TypeId) 1 encI1 xs (0 : Int)), Ent.mk (Loc.sl ao' cap') (SObj.vecL (3 : TypeId) 1 encI1 xs (0 : Int))] (SV.bool false)
     | false =>
      K (Frm.loop J :: Frm.blk 0 :: frm [] (bodyOf Try.f17) [1, 1, 1] [])
       (Sy.mk (SV.vec 0 ao (List.length xs) cap :: (SV.vec 1 ao' (List.length xs) cap' :: (rawR u 2 (SV.int IntKind.i64 (IntKind.wrap IntKind.i64 ((↑i : Int) + (1 : Int))) :: (rawR u 6 (SV.int IntKind.i64 (↑i : Int) :: (SV.vec 0 ao (List.length xs) cap :: (SV.int IntKind.i64 (↑(List.length xs) : Int) :: (SV.bool true :: (SV.int IntKind.i64 (↑i : Int) :: (SV.int IntKind.i64 (IntKind.wrap IntKind.i64 ((↑i : Int) + (1 : Int))) :: (SV.vec 0 ao (List.length xs) cap :: (SV.int IntKind.i64 (↑i : Int) :: (SV.eptr 0 (Addr.blkD ao) (Addr.offD ao) 1 (Int.toNat (↑i : Int)) 0 :: (SV.int IntKind.i64 (List.getD xs (Int.toNat (↑i : Int)) (0 : Int)) :: (SV.vec 1 ao' (List.length xs) cap' :: (SV.int IntKind.i64 (↑i : Int) :: (SV.eptr 1 (Addr.blkD ao') (Addr.offD ao') 1 (Int.toNat (↑i : Int)) 0 :: (SV.int IntKind.i64 (List.getD xs (Int.toNat (↑i : Int)) (0 : Int)) :: (SV.bool false :: []))))))))))))))) 5)) 3)))
        [Ent.mk (Loc.sl ao cap) (SObj.vecL (3 : TypeId) 1 encI1 xs (0 : Int)), Ent.mk (Loc.sl ao' cap') (SObj.vecL (3 : TypeId) 1 encI1 xs (0 : Int))])
| false => N [Ent.mk (Loc.sl ao cap) (SObj.vecL (3 : TypeId) 1 encI1 xs (0 : Int)), Ent.mk (Loc.sl ao' cap') (SObj.vecL (3 : TypeId) 1 encI1 xs (0 : Int))] (SV.bool true)) := by kernel_rfl


theorem go_start (K : List Frm → Sy → Prop) (N : List Ent → SV → Prop) (ao : Option Addr) (cap : Nat) (bs : List Int) : (run Try.prog goT false [100007, 100008] K (retP Try.prog Try.f3.results.toList N) 3000 [.code (bodyOf Try.f3)] ⟨padTo 131 [.vec 0 ao bs.length cap], [⟨.sl ao cap, .roL 1 encU8 bs 0⟩]⟩) = (
true = true ∧
 match decide ((↑(List.length bs) : Int) > (150 : Int)) with
 | true => N [Ent.mk (Loc.sl ao cap) (SObj.roL 1 encU8 bs (0 : Int))] (SV.bool true)
 | false =>
  (true = true ∧ true = true) ∧
   ∀ (b : Nat),
    (b = b ∧ true = true ∧ 4 = 4 ∧ 4 ≤ 4) ∧
     true = true ∧
      ∀ (b_1 bg bo : Nat),
       ((0 : Int) ≤ (0 : Int) ∧ (0 : Int) < (↑4 : Int)) ∧
        b = b ∧
         true = true ∧
          b_1 = b_1 ∧
           ∃ (h : Grp = Grp),
            AdtIs (fun (s : Grp) (b : Nat) ↦ packs (grpE s b)) grpE ∧
             ∀ (nb : Nat),
              ((0 : Int) ≤ (1 : Int) ∧ (1 : Int) < (↑4 : Int)) ∧
               b = b ∧
                true = true ∧
                 b_1 = b_1 ∧
                  ∃ (h : Grp = Grp),
                   AdtIs (fun (s : Grp) (b : Nat) ↦ packs (grpE s b)) grpE ∧
                    ∀ (nb_1 : Nat),
                     ((0 : Int) ≤ (2 : Int) ∧ (2 : Int) < (↑4 : Int)) ∧
                      b = b ∧
                       true = true ∧
                        b_1 = b_1 ∧
                         ∃ (h : Grp = Grp),
                          AdtIs (fun (s : Grp) (b : Nat) ↦ packs (grpE s b)) grpE ∧
                           ∀ (nb_2 : Nat),
                            ((0 : Int) ≤ (3 : Int) ∧ (3 : Int) < (↑4 : Int)) ∧
                             b = b ∧
                              true = true ∧
                               b_1 = b_1 ∧
                                ∃ (h : Grp = Grp),
                                 AdtIs (fun (s : Grp) (b : Nat) ↦ packs (grpE s b)) grpE ∧
                                  ∀ (nb_3 b_2 : Nat),
                                   K
                                    (frm [] (bodyOf Try.f3)
                                     [1, 1, 1, 1, 1, 1, 1, 0, 1, 0] [])
                                    (Sy.mk (SV.vec 0 ao (List.length bs) cap :: (SV.raw (Value.tuple #[]) :: (SV.bool false :: (SV.ptr 1 b 0 :: (SV.ptr 2 b_1 0 :: (SV.int IntKind.i64 (4 : Int) :: (SV.ptr 3 b_2 0 :: (SV.int IntKind.i64 (0 : Int) :: (rawE (SV.bool true :: (SV.bool false :: (SV.vec 0 ao (List.length bs) cap :: (SV.int IntKind.i64 (↑(List.length bs) : Int) :: (SV.bool false :: (SV.agg [SV.str (ByteArray.mk #[(97 : UInt8)]), SV.str (ByteArray.mk #[(98 : UInt8)]), SV.str (ByteArray.mk #[(99 : UInt8)]), SV.str (ByteArray.mk #[(100 : UInt8)])] :: (SV.ptr 2 b_1 0 :: (SV.int IntKind.i64 (4 : Int) :: (SV.bool false :: (SV.int IntKind.i64 (3 : Int) :: (SV.int IntKind.i64 (4 : Int) :: (SV.ptr 2 b_1 0 :: (SV.int IntKind.i64 (3 : Int) :: (SV.ptr 1 b 3 :: (SV.str (ByteArray.mk #[(100 : UInt8)]) :: (SV.int IntKind.i64 (0 : Int) :: (SV.bool false :: (rawE [] 98)))))))))))))))))) 8)))))))))
                                     [Ent.mk (Loc.sl ao cap) (SObj.roL 1 encU8 bs (0 : Int)),
                                      Ent.mk (Loc.blk b)
                                       (SObj.cells
                                        [SV.str (ByteArray.mk #[(97 : UInt8)]), SV.str (ByteArray.mk #[(98 : UInt8)]), SV.str (ByteArray.mk #[(99 : UInt8)]),
                                         SV.str (ByteArray.mk #[(100 : UInt8)])]
                                        24),
                                      pkA b_1 grpE
                                       (Grp.mk bg bo (@none Addr) 0
                                        [(Key.s (ByteArray.mk #[(97 : UInt8)]), nb, []), (Key.s (ByteArray.mk #[(98 : UInt8)]), nb_1, []),
                                         (Key.s (ByteArray.mk #[(99 : UInt8)]), nb_2, []), (Key.s (ByteArray.mk #[(100 : UInt8)]), nb_3, [])]
                                        [] []),
                                      Ent.mk (Loc.blk b_2)
                                       (SObj.cells
                                        [SV.int IntKind.i64 (0 : Int), SV.int IntKind.i64 (0 : Int), SV.int IntKind.i64 (0 : Int), SV.int IntKind.i64 (0 : Int),
                                         SV.int IntKind.i64 (0 : Int), SV.int IntKind.i64 (0 : Int), SV.int IntKind.i64 (0 : Int),
                                         SV.int IntKind.i64 (0 : Int), SV.int IntKind.i64 (0 : Int), SV.int IntKind.i64 (0 : Int)]
                                        29)])) := by kernel_rfl
end Go.Proofs.Ytihajdkipkfiiaa

/- YtihajdkipkfiiaaGn1Run -/
namespace Go.Proofs.Ytihajdkipkfiiaa
set_option linter.unusedVariables false
open Go Go.RowKit
set_option maxHeartbeats 0
set_option maxRecDepth 100000
set_option allowUnsafeReducibility true
set_option maxRecDepth 100000

theorem known9 (K : List Frm → Sy → Prop) (N : List Ent → SV → Prop) : (run Try.prog gTb false [] K (retP Try.prog Try.f12.results.toList N) 3000 [.code (bodyOf Try.f12)] ⟨padTo 53 [], []⟩) = (
true = true ∧
 ∀ (b bg bo : Nat),
  true = true ∧
   b = b ∧
    ∃ (h : Grp = Grp),
     AdtIs (fun (s : Grp) (b : Nat) ↦ packs (grpE s b)) grpE ∧
      ∀ (nb : Nat),
       true = true ∧
        b = b ∧
         ∃ (h : Grp = Grp),
          AdtIs (fun (s : Grp) (b : Nat) ↦ packs (grpE s b)) grpE ∧
           (gOk (Grp.mk bg bo (@none Addr) 0 [(Key.s (ByteArray.mk #[(97 : UInt8)]), nb, [])] [] []) (2 : Int) ∧
            keysOk (Grp.mk bg bo (@none Addr) 0 [(Key.s (ByteArray.mk #[(97 : UInt8)]), nb, [])] [] []).gs) ∧
            ∀ (ao : Option Addr) (cap : Nat),
             true = true ∧
              b = b ∧
               ∃ (h : Grp = Grp),
                AdtIs (fun (s : Grp) (b : Nat) ↦ packs (grpE s b)) grpE ∧
                 gOk
                  (Grp.mk bg bo (@none Addr) 0 [(Key.s (ByteArray.mk #[(97 : UInt8)]), nb, [(Key.i IntKind.i64 (2 : Int), PUnit.unit)])]
                   [(Key.i IntKind.i64 (2 : Int), ByteArray.mk #[(97 : UInt8)])] [])
                  (2 : Int) ∧
                  ∀ (ao : Option Addr) (cap : Nat),
                   true = true ∧
                    b = b ∧
                     ∃ (h : Grp = Grp),
                      AdtIs (fun (s : Grp) (b : Nat) ↦ packs (grpE s b)) grpE ∧
                       ∀ (ao : Option Addr) (cap : Nat),
                        true = true ∧
                         b = b ∧
                          ∃ (h : Grp = Grp),
                           AdtIs (fun (s : Grp) (b : Nat) ↦ packs (grpE s b)) grpE ∧
                            ∀ (ao : Option Addr) (cap : Nat),
                             true = true ∧
                              b = b ∧
                               ∃ (h : Grp = Grp),
                                AdtIs (fun (s : Grp) (b : Nat) ↦ packs (grpE s b)) grpE ∧
                                 ∀ (nb_1 : Nat),
                                  true = true ∧
                                   b = b ∧
                                    ∃ (h : Grp = Grp),
                                     AdtIs (fun (s : Grp) (b : Nat) ↦ packs (grpE s b)) grpE ∧
                                      (gOk (Grp.mk bg bo ao cap [(Key.s (ByteArray.mk #[(97 : UInt8)]), nb, [])] [] []) (2 : Int) ∧
                                       keysOk (Grp.mk bg bo ao cap [(Key.s (ByteArray.mk #[(97 : UInt8)]), nb, [])] [] []).gs) ∧
                                       ∀ (ao_1 : Option Addr) (cap_1 : Nat),
                                        N [pkA b grpE (Grp.mk bg bo ao cap [(Key.s (ByteArray.mk #[(97 : UInt8)]), nb, [])] [] [])] (SV.bool true)) := by kernel_rfl
end Go.Proofs.Ytihajdkipkfiiaa

/- YtihajdkipkfiiaaLayG -/
/- Layings of the kit's contracts for slices.Sorted and maps.Keys at this program, in plain words. -/
namespace Go.Proofs.Ytihajdkipkfiiaa
open Go.Shelf
def keysG_ren : Go.Shelf.Ren := ⟨fun | 7 => 96 | 10 => 110 | n => n, fun | 23 => 120 | 26 => 3 | 3 => 145 | 28 => 61 | 0 => 0 | 27 => 60 | 33 => 30 | 4 => 4 | n => n, fun | n => n⟩
theorem keysG : Go.Proofs.SlLaysZI.n7 Try.prog keysG_ren := {
  mixed := by kernel_rfl
  f7 := ⟨Try.f96.name, by decide, Try.func96.trans (congrArg some (by kernel_rfl))⟩
  f10 := ⟨Try.f110.name, by decide, Try.func110.trans (congrArg some (by kernel_rfl))⟩
  t0 := Try.underlying0
  a0 := Try.isAgg0
  z0 := Try.sizeOf0
  v0 := Try.zeroValue0
  t4 := Try.underlying4
  a4 := Try.isAgg4
  z4 := Try.sizeOf4
  v4 := Try.zeroValue4
  t23 := Try.underlying120
  a23 := Try.isAgg120
  z23 := Try.sizeOf120
  v23 := Try.zeroValue120
  t26 := Try.underlying3
  a26 := Try.isAgg3
  z26 := Try.sizeOf3
  v26 := Try.zeroValue3
  t27 := Try.underlying60
  a27 := Try.isAgg60
  z27 := Try.sizeOf60
  v27 := Try.zeroValue60
  t28 := Try.underlying61
  a28 := Try.isAgg61
  z28 := Try.sizeOf61
  v28 := Try.zeroValue61
  t33 := Try.underlying30
  a33 := Try.isAgg30
  z33 := Try.sizeOf30
  v33 := Try.zeroValue30 }
end Go.Proofs.Ytihajdkipkfiiaa

/- YtihajdkipkfiiaaGo1 -/
/- GroupOne: Members, Ints, known. -/
namespace Go.Proofs.Ytihajdkipkfiiaa
open Go Go.RowKit
set_option linter.unusedVariables false
set_option linter.unusedSimpArgs false
set_option linter.unnecessarySimpa false
set_option maxHeartbeats 0

theorem ptKg_ok : AllOk Try.prog gTm0 := ⟨inl_ok trivial hmG Try.func96 (by kernel_rfl), srtI_ok rfl ⟨_, Try.func110, by kernel_rfl, _, rfl⟩ (fun w b rm nn D0 h1 h2 h3 => AnyZI.keys_gives (ρ := keysG_ren) { keysG with } Fence.wide _ trivial rfl (by omega) b rm nn D0 w h1 h2 h3), trivial⟩
theorem gTm_ok : AllOk Try.prog gTm := ⟨inl_ok ptKg_ok hmG Try.func73 (by kernel_rfl), ptKg_ok⟩
theorem gMembers_ok : CtrOk Try.prog 18 membersC := by
  intro args hs N h
  unfold membersC at h
  split at h
  case h_2 => exact h.elim
  rename_i l b name
  split at h
  case h_2 => exact h.elim
  rename_i b' σ' p s hl
  obtain ⟨rfl, rfl, hp, ⟨⟨nb, ms⟩, hx, hw⟩, hN⟩ := h
  cases hp
  simp only [cast_eq] at hx hN
  have hml : memL s name = sortI ms := by simp only [memL, hx]
  rw [hml] at hN
  refine Spec.at (hp := [pkA b' grpE s]) (args' := [.ptr 0 b' 0, .str name]) (Post' := fun h' r => ∃ ao cap, h' = [pkA b' grpE s, ⟨.sl ao cap, .vecL 3 1 encI1 (sortI ms) 0⟩] ∧ r = .vec 1 ao (sortI ms).length cap) [l] (by simp [distinct]) (by simp [pickE, hl, pkA]) ?_ rfl ?_
  · refine Spec.up ?_
    obtain ⟨x, y, hs, _, _⟩ := gs_split hx
    refine Spec.pre (hs' := [⟨.blk b', .cells [.map 1 s.bg, .map 2 s.bo, .vec 3 s.ao s.notes.length s.cap] 118⟩, ⟨.blk s.bg, .map1 none encG s.gs (.s name) (some (.map 4 nb))⟩, ⟨.blk s.bo, .mapL (some .i64) encO s.of⟩, ⟨.sl s.ao s.cap, .vecL 9 1 encS s.notes ByteArray.empty⟩, ⟨.blk nb, .mapL (some .i64) encU ms⟩, pk 0 (x.map setE ++ y.map setE)]) (fun W F w hr => Rep.know1 (l := 1) (.s name) (some (.map 4 nb)) rfl rfl (by rw [hx]; rfl) (grp_open hs hr.unpkA1)) rfl ?_
    refine Spec.of_G 12 Try.func18 (c := bodyOf Try.f18) (by kernel_rfl) (by kernel_rfl) (Nat.le_of_ble_eq_true rfl) fun W F => ?_
    refine G_run (kc := true) (ss := []) gTm_ok hmG 600 ?_
    rw [gMem_some]
    refine ⟨rfl, ⟨rfl, rfl, rfl⟩, rfl, rfl, rfl, fun b1 => ⟨rfl, rfl, ⟨rfl, rfl, rfl, hw⟩, fun ao cap => ?_⟩⟩
    refine ⟨[pkA b' grpE s, ⟨.sl ao cap, .vecL 3 1 encI1 (sortI ms) 0⟩], .vec 1 ao (sortI ms).length cap, fun W F w hr => ?_, rfl, ao, cap, rfl, rfl⟩
    have h1 := Rep.forget1 (l := 1) rfl hr
    have h2 := Rep.intoP (p := [⟨.blk b', .cells [.map 1 s.bg, .map 2 s.bo, .vec 3 s.ao s.notes.length s.cap] 118⟩, ⟨.blk s.bg, .mapL none encG s.gs⟩, ⟨.blk s.bo, .mapL (some .i64) encO s.of⟩, ⟨.sl s.ao s.cap, .vecL 9 1 encS s.notes ByteArray.empty⟩]) (t := [⟨.blk b1, .cells [.map 4 nb] 120⟩, ⟨.sl ao cap, .vecL 3 1 encI1 (sortI ms) 0⟩]) (e := setE (.s name, (nb, ms))) h1
    have h3 := Rep.pick (π := [0, 1, 2, 3, 4, 6]) (by decide) rfl h2
    have e : x.map setE ++ setE (.s name, (nb, ms)) :: y.map setE = s.gs.map setE := by rw [hs]; simp
    rw [e] at h3
    exact Rep.pkA (S := grpE) (s := s) (t := [⟨.sl ao cap, .vecL 3 1 encI1 (sortI ms) 0⟩]) h3
  · rintro h' r ⟨ao, cap, rfl, rfl⟩
    refine ⟨Nat.le_of_ble_eq_true rfl, .vec (lenN hs) ao (sortI ms).length cap, rfl, ?_⟩
    have := hN ao cap
    have e0 : setN hs l (pkA b' grpE s) = hs := setN_self hl
    simpa [putBack, appE_eq, snoc_eq, e0] using this
theorem ints_ok : CtrOk Try.prog 17 intsC := by
  intro args hs N h
  unfold intsC at h
  split at h
  case h_2 => exact h.elim
  rename_i l ao n cap l' ao' n' cap'
  obtain ⟨xs, h1, h2, ⟨hne, rfl, rfl, hx⟩, h⟩ := h
  refine Spec.at (hp := [⟨.sl ao cap, .vecL 3 1 encI1 xs 0⟩, ⟨.sl ao' cap', .vecL 3 1 encI1 xs 0⟩]) (args' := [.vec 0 ao xs.length cap, .vec 1 ao' xs.length cap']) (Post' := fun h' r => h' = [⟨.sl ao cap, .vecL 3 1 encI1 xs 0⟩, ⟨.sl ao' cap', .vecL 3 1 encI1 xs 0⟩] ∧ r = .bool true) [l, l'] (by simpa [distinct] using ne_of_beq hne) (by simp [pickE, h1, h2]) ?_ rfl ?_
  · refine Spec.up ?_
    refine Spec.of_G 26 Try.func17 (c := bodyOf Try.f17) (by kernel_rfl) (by kernel_rfl) (Nat.le_of_ble_eq_true rfl) fun W F => ?_
    refine G_run (kc := false) (ss := []) (Cs := []) trivial hmG 600 ?_
    rw [ints_run]
    have : ((xs.length : Int) != (xs.length : Int)) = false := by simp
    rw [this]
    refine G_loopAt (ι := Nat) [] (bodyOf Try.f17) [1, 1, 0, 1, 0] 26 (fun i => [(0, .vec 0 ao xs.length cap), (1, .vec 1 ao' xs.length cap'), (5, .int .i64 (i : Int))]) (fun i => [⟨.sl ao cap, .vecL 3 1 encI1 xs 0⟩, ⟨.sl ao' cap', .vecL 3 1 encI1 xs 0⟩]) (fun i => i ≤ xs.length) (fun i => xs.length - i) 0 (by kernel_rfl) (fun J => by kernel_rfl) (Nat.zero_le _) rfl ⟨rfl, rfl, rfl, trivial⟩ (fun w hw => hw) ?_
    intro i hi u
    try dsimp only at hi ⊢
    simp only [List.nil_append, List.cons_append]
    refine G_run (kc := false) (ss := []) (Cs := []) trivial hmG 900 ?_
    rw [ints_body]
    cases hlt : decide ((i : Int) < (xs.length : Int)) with
    | false => exact ⟨_, .bool true, fun W F w hr => hr, rfl, rfl, rfl⟩
    | true =>
      simp only [decide_eq_true_eq] at hlt
      have w1 : IntKind.wrap .i64 ((i : Int) + 1) = ((i + 1 : Nat) : Int) := IntWalk.i64_in _ (by omega)
      have e : (xs.getD (Int.toNat (i : Int)) 0 != xs.getD (Int.toNat (i : Int)) 0) = false := by simp
      refine ⟨⟨rfl, rfl, rfl, by omega, by omega⟩, ⟨rfl, rfl, rfl, by omega⟩, ⟨rfl, rfl, rfl, by omega, by omega⟩, ⟨rfl, rfl, rfl, by omega⟩, ?_⟩
      rw [e]
      exact G_back (i + 1) (by omega) (by omega) rfl ⟨rfl, rfl, congrArg (Value.int .i64) w1, trivial⟩ (fun w hw => hw)
  · rintro h' r ⟨rfl, rfl⟩
    refine ⟨Nat.le_refl _, _, rfl, ?_⟩
    simpa [putBack, appE_eq, setN_self h1, setN_self h2] using h
theorem gTb_ok : AllOk Try.prog gTb := ⟨gNew_ok, gMake_ok, gPut_ok, gGone_ok, gRemove_ok, gEmptied_ok, trivial⟩
theorem gOk_lit {s : Grp} {pid : Int} (h : s.notes.length ≤ 100000000) (h2 : (match mget s.of (.i .i64 pid) with | none => true | some n => (mget s.gs (.s n)).isSome) = true) : gOk s pid := by
  refine ⟨h, fun n hn => ?_⟩
  rw [hn] at h2
  exact Option.isSome_iff_exists.1 h2
theorem known9_ok : CtrOk Try.prog 12 trueC := by
  intro args hs N h
  unfold trueC at h
  split at h
  · refine Spec.lift (Φ := fun r => r = .bool true) ?_ (fun r hr => by rw [hr]; exact h)
    refine Spec.of_G 53 Try.func12 (c := bodyOf Try.f12) (by kernel_rfl) (by kernel_rfl) (Nat.le_of_ble_eq_true rfl) fun W F => ?_
    refine G_run (kc := false) (ss := []) gTb_ok hmG 3000 ?_
    rw [known9]
    repeat' first
      | exact rfl
      | exact HEq.rfl
      | exact gOk_lit (Nat.le_of_ble_eq_true rfl) rfl
      | (show List.Pairwise _ _; simp; done)
      | (refine fun _ => ?_)
      | apply And.intro
      | (refine ⟨rfl, ?_⟩)
      | fail
  · exact h.elim
theorem goT_ok : AllOk Try.prog goT := ⟨known9_ok, gMembers_ok, ints_ok, gTb_ok⟩
end Go.Proofs.Ytihajdkipkfiiaa

