import Derived.Test.YtihajdkipkfiiaaPpC
import Derived.Test.YtihajdkipkfiiaaRaw
import Derived.Test.YtihajdkipkfiiaaTab
namespace Go.Proofs.Ytihajdkipkfiiaa
set_option linter.unusedVariables false
open Go Go.RowKit
set_option maxHeartbeats 0
set_option maxRecDepth 100000
set_option maxRecDepth 100000

theorem pp_start (K : List Frm → Sy → Prop) (N : List Ent → SV → Prop) (ao : Option Addr) (cap : Nat) (bs : List StepP) (room : Int) : (run Try.prog ppT false [] K (retP Try.prog Try.f8.results.toList N) 900 [.code (bodyOf Try.f8)] ⟨padTo 222 [.int .i64 room, .vec 0 ao bs.length cap], [⟨.sl ao cap, .roL 5 encStep bs StepP.zero⟩]⟩) = (
true = true ∧
 match decide ((↑(List.length bs) : Int) > (120 : Int)) with
 | true => N [Ent.mk (Loc.sl ao cap) (SObj.roL 5 encStep bs (StepP.mk (0 : Int) (0 : Int) (0 : Int) (ByteArray.mk #[]) (ByteArray.mk #[])))] (SV.bool true)
 | false =>
  true = true ∧
   ∀ (b bm bp : Nat),
    true = true ∧
     ∃ (bm_1 : Nat),
      ∃ (bp_1 : Nat),
       ∀ (b_1 : Nat) (ao_1 : Option Addr) (cap_1 : Nat),
        K (frm [] (bodyOf Try.f8) [1, 1, 1, 1, 0, 1, 0] [])
         (Sy.mk (SV.int IntKind.i64 room :: (SV.vec 0 ao (List.length bs) cap :: (SV.raw (Value.tuple #[]) :: (SV.raw (Value.tuple #[]) :: (SV.bool false :: (SV.ptr 1 b 0 :: (SV.ptr 2 b_1 0 :: (SV.int IntKind.i64 (0 : Int) :: (rawE (SV.bool true :: (SV.bool false :: (SV.vec 0 ao (List.length bs) cap :: (SV.int IntKind.i64 (↑(List.length bs) : Int) :: (SV.bool false :: (SV.int IntKind.i64 room :: (SV.ptr 1 b 0 :: (SV.int IntKind.i64 room :: (SV.ptr 2 b_1 0 :: (rawE [] 188)))))))))) 17)))))))))
          [Ent.mk (Loc.sl ao cap) (SObj.roL 5 encStep bs (StepP.mk (0 : Int) (0 : Int) (0 : Int) (ByteArray.mk #[]) (ByteArray.mk #[]))), pkA b ptE (pNew room bm bp),
           pkA b_1 rtE (RT.mk (pNew room bm_1 bp_1) ao_1 cap_1)])) := by kernel_rfl


theorem pp_l1 (K : List Frm → Sy → Prop) (N : List Ent → SV → Prop) (J : Act → World → Prop) (ao : Option Addr) (cap : Nat) (bs : List StepP) (bt br : Nat) (s : PT) (aor : Option Addr) (capr : Nat) (i : Nat) (u : Nat → Value) : (run Try.prog ppT false [14] K (retP Try.prog Try.f8.results.toList N) 3000 (frm [J] (bodyOf Try.f8) [1, 1, 1, 1, 0, 1, 0, 0] []) ⟨mkT u 222 0 [(1, .vec 0 ao bs.length cap), (5, .ptr 1 bt 0), (6, .ptr 2 br 0), (7, .int .i64 (i : Int))], [⟨.sl ao cap, .roL 5 encStep bs StepP.zero⟩, pkA bt ptE s, pkA br rtE ⟨s, aor, capr⟩]⟩) = (
match decide ((↑i : Int) < (↑(List.length bs) : Int)) with
| true =>
 (ao = ao ∧ cap = cap ∧ List.length bs = List.length bs ∧ (0 : Int) ≤ (↑i : Int) ∧ (↑i : Int) < (↑(List.length bs) : Int)) ∧
  (Addr.blkD ao = Addr.blkD ao ∧ Addr.offD ao = Addr.offD ao ∧ 5 = 5 ∧ Int.toNat (↑i : Int) < List.length bs ∧ 5 = 5) ∧
   ∀ (b : Nat),
    (b = b ∧ true = true ∧ 5 = 5 ∧ 5 ≤ 5) ∧
     b = b ∧
      match decide ((↑(ByteArray.size (List.getD bs (Int.toNat (↑i : Int)) (StepP.mk (0 : Int) (0 : Int) (0 : Int) (ByteArray.mk #[]) (ByteArray.mk #[]))).4) : Int) > (100 : Int)) with
      | true =>
       N
        [Ent.mk (Loc.sl ao cap) (SObj.roL 5 encStep bs (StepP.mk (0 : Int) (0 : Int) (0 : Int) (ByteArray.mk #[]) (ByteArray.mk #[]))), pkA bt ptE s, pkA br rtE (RT.mk s aor capr),
         Ent.mk (Loc.blk b)
          (SObj.cells
           [SV.int IntKind.i64 (List.getD bs (Int.toNat (↑i : Int)) (StepP.mk (0 : Int) (0 : Int) (0 : Int) (ByteArray.mk #[]) (ByteArray.mk #[]))).1,
            SV.int IntKind.i64 (List.getD bs (Int.toNat (↑i : Int)) (StepP.mk (0 : Int) (0 : Int) (0 : Int) (ByteArray.mk #[]) (ByteArray.mk #[]))).2,
            SV.int IntKind.i64 (List.getD bs (Int.toNat (↑i : Int)) (StepP.mk (0 : Int) (0 : Int) (0 : Int) (ByteArray.mk #[]) (ByteArray.mk #[]))).3,
            SV.str (List.getD bs (Int.toNat (↑i : Int)) (StepP.mk (0 : Int) (0 : Int) (0 : Int) (ByteArray.mk #[]) (ByteArray.mk #[]))).4,
            SV.str (List.getD bs (Int.toNat (↑i : Int)) (StepP.mk (0 : Int) (0 : Int) (0 : Int) (ByteArray.mk #[]) (ByteArray.mk #[]))).5]
           68)]
        (SV.bool true)
      | false =>
       b = b ∧
        match decide ((↑(ByteArray.size (List.getD bs (Int.toNat (↑i : Int)) (StepP.mk (0 : Int) (0 : Int) (0 : Int) (ByteArray.mk #[]) (ByteArray.mk #[]))).5) : Int) > (100 : Int)) with
        | true =>
         N
          [Ent.mk (Loc.sl ao cap) (SObj.roL 5 encStep bs (StepP.mk (0 : Int) (0 : Int) (0 : Int) (ByteArray.mk #[]) (ByteArray.mk #[]))), pkA bt ptE s, pkA br rtE (RT.mk s aor capr),
           Ent.mk (Loc.blk b)
            (SObj.cells
             [SV.int IntKind.i64 (List.getD bs (Int.toNat (↑i : Int)) (StepP.mk (0 : Int) (0 : Int) (0 : Int) (ByteArray.mk #[]) (ByteArray.mk #[]))).1,
              SV.int IntKind.i64 (List.getD bs (Int.toNat (↑i : Int)) (StepP.mk (0 : Int) (0 : Int) (0 : Int) (ByteArray.mk #[]) (ByteArray.mk #[]))).2,
              SV.int IntKind.i64 (List.getD bs (Int.toNat (↑i : Int)) (StepP.mk (0 : Int) (0 : Int) (0 : Int) (ByteArray.mk #[]) (ByteArray.mk #[]))).3,
              SV.str (List.getD bs (Int.toNat (↑i : Int)) (StepP.mk (0 : Int) (0 : Int) (0 : Int) (ByteArray.mk #[]) (ByteArray.mk #[]))).4,
              SV.str (List.getD bs (Int.toNat (↑i : Int)) (StepP.mk (0 : Int) (0 : Int) (0 : Int) (ByteArray.mk #[]) (ByteArray.mk #[]))).5]
             68)]
          (SV.bool true)
        | false =>
         K (frmR [J] (bodyOf Try.f8) 14)
          (Sy.mk (SV.raw (u 0) :: (SV.vec 0 ao (List.length bs) cap :: (rawR u 2 (SV.ptr 1 bt 0 :: (SV.ptr 2 br 0 :: (SV.int IntKind.i64 (↑i : Int) :: (SV.ptr 3 b 0 :: (SV.int IntKind.i64 (0 : Int) :: (SV.int IntKind.i64 (0 : Int) :: (SV.int IntKind.i64 (0 : Int) :: (SV.int IntKind.i64 (0 : Int) :: (rawR u 13 (SV.int IntKind.i64 (↑i : Int) :: (SV.vec 0 ao (List.length bs) cap :: (SV.int IntKind.i64 (↑(List.length bs) : Int) :: (SV.bool true :: (SV.raw (u 38) :: (SV.raw (u 39) :: (SV.vec 0 ao (List.length bs) cap :: (SV.int IntKind.i64 (↑i : Int) :: (SV.eptr 0 (Addr.blkD ao) (Addr.offD ao) 5 (Int.toNat (↑i : Int)) 0 :: (SV.agg [SV.int IntKind.i64 (List.getD bs (Int.toNat (↑i : Int)) (StepP.mk (0 : Int) (0 : Int) (0 : Int) (ByteArray.mk #[]) (ByteArray.mk #[]))).1, SV.int IntKind.i64 (List.getD bs (Int.toNat (↑i : Int)) (StepP.mk (0 : Int) (0 : Int) (0 : Int) (ByteArray.mk #[]) (ByteArray.mk #[]))).2, SV.int IntKind.i64 (List.getD bs (Int.toNat (↑i : Int)) (StepP.mk (0 : Int) (0 : Int) (0 : Int) (ByteArray.mk #[]) (ByteArray.mk #[]))).3, SV.str (List.getD bs (Int.toNat (↑i : Int)) (StepP.mk (0 : Int) (0 : Int) (0 : Int) (ByteArray.mk #[]) (ByteArray.mk #[]))).4, SV.str (List.getD bs (Int.toNat (↑i : Int)) (StepP.mk (0 : Int) (0 : Int) (0 : Int) (ByteArray.mk #[]) (ByteArray.mk #[]))).5] :: (SV.ptr 3 b 3 :: (SV.str (List.getD bs (Int.toNat (↑i : Int)) (StepP.mk (0 : Int) (0 : Int) (0 : Int) (ByteArray.mk #[]) (ByteArray.mk #[]))).4 :: (SV.int IntKind.i64 (↑(ByteArray.size (List.getD bs (Int.toNat (↑i : Int)) (StepP.mk (0 : Int) (0 : Int) (0 : Int) (ByteArray.mk #[]) (ByteArray.mk #[]))).4) : Int) :: (SV.bool (decide ((↑(ByteArray.size (List.getD bs (Int.toNat (↑i : Int)) (StepP.mk (0 : Int) (0 : Int) (0 : Int) (ByteArray.mk #[]) (ByteArray.mk #[]))).4) : Int) > (100 : Int))) :: (SV.bool false :: (SV.ptr 3 b 4 :: (SV.str (List.getD bs (Int.toNat (↑i : Int)) (StepP.mk (0 : Int) (0 : Int) (0 : Int) (ByteArray.mk #[]) (ByteArray.mk #[]))).5 :: (SV.int IntKind.i64 (↑(ByteArray.size (List.getD bs (Int.toNat (↑i : Int)) (StepP.mk (0 : Int) (0 : Int) (0 : Int) (ByteArray.mk #[]) (ByteArray.mk #[]))).5) : Int) :: (SV.bool (decide ((↑(ByteArray.size (List.getD bs (Int.toNat (↑i : Int)) (StepP.mk (0 : Int) (0 : Int) (0 : Int) (ByteArray.mk #[]) (ByteArray.mk #[]))).5) : Int) > (100 : Int))) :: (SV.bool false :: (rawR u 54 [] 168))))))))))))))))))))) 21))))))))) 3)))
           [Ent.mk (Loc.sl ao cap) (SObj.roL 5 encStep bs (StepP.mk (0 : Int) (0 : Int) (0 : Int) (ByteArray.mk #[]) (ByteArray.mk #[]))), pkA bt ptE s,
            pkA br rtE (RT.mk s aor capr),
            Ent.mk (Loc.blk b)
             (SObj.cells
              [SV.int IntKind.i64 (List.getD bs (Int.toNat (↑i : Int)) (StepP.mk (0 : Int) (0 : Int) (0 : Int) (ByteArray.mk #[]) (ByteArray.mk #[]))).1,
               SV.int IntKind.i64 (List.getD bs (Int.toNat (↑i : Int)) (StepP.mk (0 : Int) (0 : Int) (0 : Int) (ByteArray.mk #[]) (ByteArray.mk #[]))).2,
               SV.int IntKind.i64 (List.getD bs (Int.toNat (↑i : Int)) (StepP.mk (0 : Int) (0 : Int) (0 : Int) (ByteArray.mk #[]) (ByteArray.mk #[]))).3,
               SV.str (List.getD bs (Int.toNat (↑i : Int)) (StepP.mk (0 : Int) (0 : Int) (0 : Int) (ByteArray.mk #[]) (ByteArray.mk #[]))).4,
               SV.str (List.getD bs (Int.toNat (↑i : Int)) (StepP.mk (0 : Int) (0 : Int) (0 : Int) (ByteArray.mk #[]) (ByteArray.mk #[]))).5]
              68)])
| false =>
 true = true ∧
  bt = bt ∧
   ∃ (h : PT = PT),
    AdtIs (fun (s : PT) (b : Nat) ↦ packs (ptE s b)) ptE ∧
     (pOk (cast h s) ∧ List.length s.2 ≤ 200) ∧
      ∀ (ao_1 : Option Addr) (cap_1 : Nat),
       N
        [Ent.mk (Loc.sl ao cap) (SObj.roL 5 encStep bs (StepP.mk (0 : Int) (0 : Int) (0 : Int) (ByteArray.mk #[]) (ByteArray.mk #[]))), pkA bt ptE s, pkA br rtE (RT.mk s aor capr),
         Ent.mk (Loc.sl ao_1 cap_1)
          (SObj.vecL (45 : TypeId) 6 encP6 (upto (1 : Int) (List.map (fun (x : Nat × PR) ↦ x.snd) s.2))
           (PR.mk (0 : Int) (0 : Int) (ByteArray.mk #[]) false (0 : Int) (ByteArray.mk #[]) false false))]
        (SV.bool ((↑(List.length (upto (1 : Int) (List.map (fun (x : Nat × PR) ↦ x.snd) s.2))) : Int) == (1 : Int)))) := by kernel_rfl


theorem pp_14 (K : List Frm → Sy → Prop) (N : List Ent → SV → Prop) (J0 : Act → World → Prop) (ao : Option Addr) (cap : Nat) (bs : List StepP) (bt br : Nat) (s : PT) (aor : Option Addr) (capr : Nat) (i : Nat) (x : StepP) (b3 : Nat) (u : Nat → Value) : (run Try.prog ppT false [15, 23, 27, 31, 33] K (retP Try.prog Try.f8.results.toList N) 900 (frmR [J0] (bodyOf Try.f8) 14) ⟨mkT u 222 0 [(1, .vec 0 ao bs.length cap), (5, .ptr 1 bt 0), (6, .ptr 2 br 0), (7, .int .i64 (i : Int)), (8, .ptr 3 b3 0), (9, .int .i64 0), (10, .int .i64 0), (11, .int .i64 0), (12, .int .i64 0)], [⟨.sl ao cap, .roL 5 encStep bs StepP.zero⟩, pkA bt ptE s, pkA br rtE ⟨s, aor, capr⟩, ⟨.blk b3, .cells (encStep x) 68⟩]⟩) = (
b3 = b3 ∧
 match x.1 == (0 : Int) with
 | true =>
  K (frmR [J0] (bodyOf Try.f8) 23)
   (Sy.mk (SV.raw (u 0) :: (SV.vec 0 ao (List.length bs) cap :: (rawR u 2 (SV.ptr 1 bt 0 :: (SV.ptr 2 br 0 :: (SV.int IntKind.i64 (↑i : Int) :: (SV.ptr 3 b3 0 :: (SV.int IntKind.i64 (0 : Int) :: (SV.int IntKind.i64 (0 : Int) :: (SV.int IntKind.i64 (0 : Int) :: (SV.int IntKind.i64 (0 : Int) :: (rawR u 13 (SV.ptr 3 b3 0 :: (SV.int IntKind.i64 x.1 :: (rawR u 56 (SV.bool true :: ((SV.bool (x.1 == (0 : Int))) :: (rawR u 77 [] 145))) 19))) 41))))))))) 3)))
    [Ent.mk (Loc.sl ao cap) (SObj.roL 5 encStep bs (StepP.mk (0 : Int) (0 : Int) (0 : Int) (ByteArray.mk #[]) (ByteArray.mk #[]))), pkA bt ptE s, pkA br rtE (RT.mk s aor capr),
     Ent.mk (Loc.blk b3) (SObj.cells [SV.int IntKind.i64 x.1, SV.int IntKind.i64 x.2, SV.int IntKind.i64 x.3, SV.str x.4, SV.str x.5] (68 : TypeId))])
 | false =>
  match x.1 == (1 : Int) with
  | true =>
   K (frmR [J0] (bodyOf Try.f8) 23)
    (Sy.mk (SV.raw (u 0) :: (SV.vec 0 ao (List.length bs) cap :: (rawR u 2 (SV.ptr 1 bt 0 :: (SV.ptr 2 br 0 :: (SV.int IntKind.i64 (↑i : Int) :: (SV.ptr 3 b3 0 :: (SV.int IntKind.i64 (0 : Int) :: (SV.int IntKind.i64 (0 : Int) :: (SV.int IntKind.i64 (0 : Int) :: (SV.int IntKind.i64 (0 : Int) :: (rawR u 13 (SV.ptr 3 b3 0 :: (SV.int IntKind.i64 x.1 :: (rawR u 56 (SV.bool true :: ((SV.bool (x.1 == (0 : Int))) :: ((SV.bool (x.1 == (1 : Int))) :: (rawR u 78 [] 144)))) 19))) 41))))))))) 3)))
     [Ent.mk (Loc.sl ao cap) (SObj.roL 5 encStep bs (StepP.mk (0 : Int) (0 : Int) (0 : Int) (ByteArray.mk #[]) (ByteArray.mk #[]))), pkA bt ptE s, pkA br rtE (RT.mk s aor capr),
      Ent.mk (Loc.blk b3) (SObj.cells [SV.int IntKind.i64 x.1, SV.int IntKind.i64 x.2, SV.int IntKind.i64 x.3, SV.str x.4, SV.str x.5] (68 : TypeId))])
  | false =>
   match x.1 == (2 : Int) with
   | true =>
    K (frmR [J0] (bodyOf Try.f8) 23)
     (Sy.mk (SV.raw (u 0) :: (SV.vec 0 ao (List.length bs) cap :: (rawR u 2 (SV.ptr 1 bt 0 :: (SV.ptr 2 br 0 :: (SV.int IntKind.i64 (↑i : Int) :: (SV.ptr 3 b3 0 :: (SV.int IntKind.i64 (0 : Int) :: (SV.int IntKind.i64 (0 : Int) :: (SV.int IntKind.i64 (0 : Int) :: (SV.int IntKind.i64 (0 : Int) :: (rawR u 13 (SV.ptr 3 b3 0 :: (SV.int IntKind.i64 x.1 :: (rawR u 56 (SV.bool true :: ((SV.bool (x.1 == (0 : Int))) :: ((SV.bool (x.1 == (1 : Int))) :: ((SV.bool (x.1 == (2 : Int))) :: (rawR u 79 [] 143))))) 19))) 41))))))))) 3)))
      [Ent.mk (Loc.sl ao cap) (SObj.roL 5 encStep bs (StepP.mk (0 : Int) (0 : Int) (0 : Int) (ByteArray.mk #[]) (ByteArray.mk #[]))), pkA bt ptE s, pkA br rtE (RT.mk s aor capr),
       Ent.mk (Loc.blk b3) (SObj.cells [SV.int IntKind.i64 x.1, SV.int IntKind.i64 x.2, SV.int IntKind.i64 x.3, SV.str x.4, SV.str x.5] (68 : TypeId))])
   | false =>
    match x.1 == (3 : Int) with
    | true =>
     K (frmR [J0] (bodyOf Try.f8) 27)
      (Sy.mk (SV.raw (u 0) :: (SV.vec 0 ao (List.length bs) cap :: (rawR u 2 (SV.ptr 1 bt 0 :: (SV.ptr 2 br 0 :: (SV.int IntKind.i64 (↑i : Int) :: (SV.ptr 3 b3 0 :: (SV.int IntKind.i64 (0 : Int) :: (SV.int IntKind.i64 (0 : Int) :: (SV.int IntKind.i64 (0 : Int) :: (SV.int IntKind.i64 (0 : Int) :: (rawR u 13 (SV.ptr 3 b3 0 :: (SV.int IntKind.i64 x.1 :: (rawR u 56 (SV.bool false :: ((SV.bool (x.1 == (0 : Int))) :: ((SV.bool (x.1 == (1 : Int))) :: ((SV.bool (x.1 == (2 : Int))) :: (rawR u 79 (SV.bool true :: ((SV.bool (x.1 == (3 : Int))) :: (rawR u 103 [] 119))) 22))))) 19))) 41))))))))) 3)))
       [Ent.mk (Loc.sl ao cap) (SObj.roL 5 encStep bs (StepP.mk (0 : Int) (0 : Int) (0 : Int) (ByteArray.mk #[]) (ByteArray.mk #[]))), pkA bt ptE s, pkA br rtE (RT.mk s aor capr),
        Ent.mk (Loc.blk b3) (SObj.cells [SV.int IntKind.i64 x.1, SV.int IntKind.i64 x.2, SV.int IntKind.i64 x.3, SV.str x.4, SV.str x.5] (68 : TypeId))])
    | false =>
     match x.1 == (4 : Int) with
     | true =>
      K (frmR [J0] (bodyOf Try.f8) 27)
       (Sy.mk (SV.raw (u 0) :: (SV.vec 0 ao (List.length bs) cap :: (rawR u 2 (SV.ptr 1 bt 0 :: (SV.ptr 2 br 0 :: (SV.int IntKind.i64 (↑i : Int) :: (SV.ptr 3 b3 0 :: (SV.int IntKind.i64 (0 : Int) :: (SV.int IntKind.i64 (0 : Int) :: (SV.int IntKind.i64 (0 : Int) :: (SV.int IntKind.i64 (0 : Int) :: (rawR u 13 (SV.ptr 3 b3 0 :: (SV.int IntKind.i64 x.1 :: (rawR u 56 (SV.bool false :: ((SV.bool (x.1 == (0 : Int))) :: ((SV.bool (x.1 == (1 : Int))) :: ((SV.bool (x.1 == (2 : Int))) :: (rawR u 79 (SV.bool true :: ((SV.bool (x.1 == (3 : Int))) :: ((SV.bool (x.1 == (4 : Int))) :: (rawR u 104 [] 118)))) 22))))) 19))) 41))))))))) 3)))
        [Ent.mk (Loc.sl ao cap) (SObj.roL 5 encStep bs (StepP.mk (0 : Int) (0 : Int) (0 : Int) (ByteArray.mk #[]) (ByteArray.mk #[]))), pkA bt ptE s, pkA br rtE (RT.mk s aor capr),
         Ent.mk (Loc.blk b3) (SObj.cells [SV.int IntKind.i64 x.1, SV.int IntKind.i64 x.2, SV.int IntKind.i64 x.3, SV.str x.4, SV.str x.5] (68 : TypeId))])
     | false =>
      match x.1 == (5 : Int) with
      | true =>
       K (frmR [J0] (bodyOf Try.f8) 31)
        (Sy.mk (SV.raw (u 0) :: (SV.vec 0 ao (List.length bs) cap :: (rawR u 2 (SV.ptr 1 bt 0 :: (SV.ptr 2 br 0 :: (SV.int IntKind.i64 (↑i : Int) :: (SV.ptr 3 b3 0 :: (SV.int IntKind.i64 (0 : Int) :: (SV.int IntKind.i64 (0 : Int) :: (SV.int IntKind.i64 (0 : Int) :: (SV.int IntKind.i64 (0 : Int) :: (rawR u 13 (SV.ptr 3 b3 0 :: (SV.int IntKind.i64 x.1 :: (rawR u 56 (SV.bool false :: ((SV.bool (x.1 == (0 : Int))) :: ((SV.bool (x.1 == (1 : Int))) :: ((SV.bool (x.1 == (2 : Int))) :: (rawR u 79 (SV.bool false :: ((SV.bool (x.1 == (3 : Int))) :: ((SV.bool (x.1 == (4 : Int))) :: (rawR u 104 (SV.bool true :: ((SV.bool (x.1 == (5 : Int))) :: (rawR u 120 [] 102))) 14)))) 22))))) 19))) 41))))))))) 3)))
         [Ent.mk (Loc.sl ao cap) (SObj.roL 5 encStep bs (StepP.mk (0 : Int) (0 : Int) (0 : Int) (ByteArray.mk #[]) (ByteArray.mk #[]))), pkA bt ptE s, pkA br rtE (RT.mk s aor capr),
          Ent.mk (Loc.blk b3) (SObj.cells [SV.int IntKind.i64 x.1, SV.int IntKind.i64 x.2, SV.int IntKind.i64 x.3, SV.str x.4, SV.str x.5] (68 : TypeId))])
      | false =>
       match x.1 == (6 : Int) with
       | true =>
        K (frmR [J0] (bodyOf Try.f8) 31)
         (Sy.mk (SV.raw (u 0) :: (SV.vec 0 ao (List.length bs) cap :: (rawR u 2 (SV.ptr 1 bt 0 :: (SV.ptr 2 br 0 :: (SV.int IntKind.i64 (↑i : Int) :: (SV.ptr 3 b3 0 :: (SV.int IntKind.i64 (0 : Int) :: (SV.int IntKind.i64 (0 : Int) :: (SV.int IntKind.i64 (0 : Int) :: (SV.int IntKind.i64 (0 : Int) :: (rawR u 13 (SV.ptr 3 b3 0 :: (SV.int IntKind.i64 x.1 :: (rawR u 56 (SV.bool false :: ((SV.bool (x.1 == (0 : Int))) :: ((SV.bool (x.1 == (1 : Int))) :: ((SV.bool (x.1 == (2 : Int))) :: (rawR u 79 (SV.bool false :: ((SV.bool (x.1 == (3 : Int))) :: ((SV.bool (x.1 == (4 : Int))) :: (rawR u 104 (SV.bool true :: ((SV.bool (x.1 == (5 : Int))) :: ((SV.bool (x.1 == (6 : Int))) :: (rawR u 121 [] 101)))) 14)))) 22))))) 19))) 41))))))))) 3)))
          [Ent.mk (Loc.sl ao cap) (SObj.roL 5 encStep bs (StepP.mk (0 : Int) (0 : Int) (0 : Int) (ByteArray.mk #[]) (ByteArray.mk #[]))), pkA bt ptE s, pkA br rtE (RT.mk s aor capr),
           Ent.mk (Loc.blk b3) (SObj.cells [SV.int IntKind.i64 x.1, SV.int IntKind.i64 x.2, SV.int IntKind.i64 x.3, SV.str x.4, SV.str x.5] (68 : TypeId))])
       | false =>
        match x.1 == (7 : Int) with
        | true =>
         K (frmR [J0] (bodyOf Try.f8) 33)
          (Sy.mk (SV.raw (u 0) :: (SV.vec 0 ao (List.length bs) cap :: (rawR u 2 (SV.ptr 1 bt 0 :: (SV.ptr 2 br 0 :: (SV.int IntKind.i64 (↑i : Int) :: (SV.ptr 3 b3 0 :: (SV.int IntKind.i64 (0 : Int) :: (SV.int IntKind.i64 (0 : Int) :: (SV.int IntKind.i64 (0 : Int) :: (SV.int IntKind.i64 (0 : Int) :: (rawR u 13 (SV.ptr 3 b3 0 :: (SV.int IntKind.i64 x.1 :: (rawR u 56 (SV.bool false :: ((SV.bool (x.1 == (0 : Int))) :: ((SV.bool (x.1 == (1 : Int))) :: ((SV.bool (x.1 == (2 : Int))) :: (rawR u 79 (SV.bool false :: ((SV.bool (x.1 == (3 : Int))) :: ((SV.bool (x.1 == (4 : Int))) :: (rawR u 104 (SV.bool false :: ((SV.bool (x.1 == (5 : Int))) :: ((SV.bool (x.1 == (6 : Int))) :: (rawR u 121 (SV.bool true :: ((SV.bool (x.1 == (7 : Int))) :: (rawR u 135 [] 87))) 12)))) 14)))) 22))))) 19))) 41))))))))) 3)))
           [Ent.mk (Loc.sl ao cap) (SObj.roL 5 encStep bs (StepP.mk (0 : Int) (0 : Int) (0 : Int) (ByteArray.mk #[]) (ByteArray.mk #[]))), pkA bt ptE s,
            pkA br rtE (RT.mk s aor capr), Ent.mk (Loc.blk b3) (SObj.cells [SV.int IntKind.i64 x.1, SV.int IntKind.i64 x.2, SV.int IntKind.i64 x.3, SV.str x.4, SV.str x.5] (68 : TypeId))])
        | false =>
         K (frmR [J0] (bodyOf Try.f8) 15)
          (Sy.mk (SV.raw (u 0) :: (SV.vec 0 ao (List.length bs) cap :: (rawR u 2 (SV.ptr 1 bt 0 :: (SV.ptr 2 br 0 :: (SV.int IntKind.i64 (↑i : Int) :: (SV.ptr 3 b3 0 :: (SV.int IntKind.i64 (0 : Int) :: (SV.int IntKind.i64 (0 : Int) :: (SV.int IntKind.i64 (0 : Int) :: (SV.int IntKind.i64 (0 : Int) :: (rawR u 13 (SV.ptr 3 b3 0 :: (SV.int IntKind.i64 x.1 :: (rawR u 56 (SV.bool false :: ((SV.bool (x.1 == (0 : Int))) :: ((SV.bool (x.1 == (1 : Int))) :: ((SV.bool (x.1 == (2 : Int))) :: (rawR u 79 (SV.bool false :: ((SV.bool (x.1 == (3 : Int))) :: ((SV.bool (x.1 == (4 : Int))) :: (rawR u 104 (SV.bool false :: ((SV.bool (x.1 == (5 : Int))) :: ((SV.bool (x.1 == (6 : Int))) :: (rawR u 121 (SV.bool false :: ((SV.bool (x.1 == (7 : Int))) :: (rawR u 135 [] 87))) 12)))) 14)))) 22))))) 19))) 41))))))))) 3)))
           [Ent.mk (Loc.sl ao cap) (SObj.roL 5 encStep bs (StepP.mk (0 : Int) (0 : Int) (0 : Int) (ByteArray.mk #[]) (ByteArray.mk #[]))), pkA bt ptE s,
            pkA br rtE (RT.mk s aor capr), Ent.mk (Loc.blk b3) (SObj.cells [SV.int IntKind.i64 x.1, SV.int IntKind.i64 x.2, SV.int IntKind.i64 x.3, SV.str x.4, SV.str x.5] (68 : TypeId))])) := by kernel_rfl


theorem pp_15 (K : List Frm → Sy → Prop) (N : List Ent → SV → Prop) (J0 : Act → World → Prop) (ao : Option Addr) (cap : Nat) (bs : List StepP) (bt br : Nat) (s : PT) (aor : Option Addr) (capr : Nat) (i : Nat) (x : StepP) (b3 : Nat) (u : Nat → Value) : (run Try.prog ppT false [34] K (retP Try.prog Try.f8.results.toList N) 900 (frmR [J0] (bodyOf Try.f8) 15) ⟨mkT u 222 0 [(1, .vec 0 ao bs.length cap), (5, .ptr 1 bt 0), (6, .ptr 2 br 0), (7, .int .i64 (i : Int)), (8, .ptr 3 b3 0), (9, .int .i64 0), (10, .int .i64 0), (11, .int .i64 0), (12, .int .i64 0)], [⟨.sl ao cap, .roL 5 encStep bs StepP.zero⟩, pkA bt ptE s, pkA br rtE ⟨s, aor, capr⟩, ⟨.blk b3, .cells (encStep x) 68⟩]⟩) = (
b3 = b3 ∧
 true = true ∧
  bt = bt ∧
   ∃ (h : PT = PT),
    AdtIs (fun (s : PT) (b : Nat) ↦ packs (ptE s b)) ptE ∧
     pOk s ∧
      ∀ (b : Nat),
       (b = b ∧ true = true ∧ 6 = 6 ∧ 6 ≤ 6) ∧
        b3 = b3 ∧
         true = true ∧
          br = br ∧
           ∃ (h : RT = RT),
            AdtIs (fun (s : RT) (b : Nat) ↦ packs (rtE s b)) rtE ∧
             pOk (RT.mk s aor capr).t ∧
              ∀ (ao_1 : Option Addr) (cap_1 b_1 : Nat),
               (b_1 = b_1 ∧ true = true ∧ 6 = 6 ∧ 6 ≤ 6) ∧
                (b = b ∧ 6 = 6) ∧
                 (b_1 = b_1 ∧ 6 = 6) ∧
                  match
                   !((pReap s x.2).2.1.1 == (pReap s x.2).2.1.1 &&
                    ((pReap s x.2).2.1.2 == (pReap s x.2).2.1.2 &&
                     (sEq (pReap s x.2).2.1.3 (pReap s x.2).2.1.3 &&
                      ((pReap s x.2).2.1.4 == (pReap s x.2).2.1.4 &&
                       ((pReap s x.2).2.1.5 == (pReap s x.2).2.1.5 && (sEq (pReap s x.2).2.1.6 (pReap s x.2).2.1.6 && true)))))) with
                  | true =>
                   N
                    [Ent.mk (Loc.sl ao cap) (SObj.roL 5 encStep bs (StepP.mk (0 : Int) (0 : Int) (0 : Int) (ByteArray.mk #[]) (ByteArray.mk #[]))),
                     pkA bt ptE (pReap s x.2).1, pkA br rtE (RT.mk (pReap s x.2).1 ao_1 cap_1),
                     Ent.mk (Loc.blk b3) (SObj.cells [SV.int IntKind.i64 x.1, SV.int IntKind.i64 x.2, SV.int IntKind.i64 x.3, SV.str x.4, SV.str x.5] (68 : TypeId)),
                     Ent.mk (Loc.blk b)
                      (SObj.cells
                       [SV.int IntKind.i64 (pReap s x.2).2.1.1, SV.int IntKind.i64 (pReap s x.2).2.1.2, SV.str (pReap s x.2).2.1.3, SV.bool (pReap s x.2).2.1.4,
                        SV.int IntKind.i64 (pReap s x.2).2.1.5, SV.str (pReap s x.2).2.1.6]
                       45),
                     Ent.mk (Loc.blk b_1)
                      (SObj.cells
                       [SV.int IntKind.i64 (pReap s x.2).2.1.1, SV.int IntKind.i64 (pReap s x.2).2.1.2, SV.str (pReap s x.2).2.1.3, SV.bool (pReap s x.2).2.1.4,
                        SV.int IntKind.i64 (pReap s x.2).2.1.5, SV.str (pReap s x.2).2.1.6]
                       45)]
                    (SV.bool false)
                  | false =>
                   K (frmR [J0] (bodyOf Try.f8) 34)
                    (Sy.mk (SV.raw (u 0) :: (SV.vec 0 ao (List.length bs) cap :: (rawR u 2 (SV.ptr 1 bt 0 :: (SV.ptr 2 br 0 :: (SV.int IntKind.i64 (↑i : Int) :: (SV.ptr 3 b3 0 :: (SV.int IntKind.i64 (0 : Int) :: (SV.int IntKind.i64 (0 : Int) :: (SV.int IntKind.i64 (pReap s x.2).2.2 :: (SV.int IntKind.i64 (pReap s x.2).2.2 :: (SV.ptr 4 b 0 :: (SV.int IntKind.i64 (pReap s x.2).2.2 :: (SV.ptr 5 b_1 0 :: (SV.int IntKind.i64 (pReap s x.2).2.2 :: (rawR u 17 (SV.tuple [SV.agg [SV.int IntKind.i64 (pReap s x.2).2.1.1, SV.int IntKind.i64 (pReap s x.2).2.1.2, SV.str (pReap s x.2).2.1.3, SV.bool (pReap s x.2).2.1.4, SV.int IntKind.i64 (pReap s x.2).2.1.5, SV.str (pReap s x.2).2.1.6], SV.int IntKind.i64 (pReap s x.2).2.2] :: (SV.ptr 1 bt 0 :: (SV.ptr 3 b3 1 :: (SV.int IntKind.i64 x.2 :: (SV.tuple [SV.agg [SV.int IntKind.i64 (pReap s x.2).2.1.1, SV.int IntKind.i64 (pReap s x.2).2.1.2, SV.str (pReap s x.2).2.1.3, SV.bool (pReap s x.2).2.1.4, SV.int IntKind.i64 (pReap s x.2).2.1.5, SV.str (pReap s x.2).2.1.6], SV.int IntKind.i64 (pReap s x.2).2.2] :: (SV.agg [SV.int IntKind.i64 (pReap s x.2).2.1.1, SV.int IntKind.i64 (pReap s x.2).2.1.2, SV.str (pReap s x.2).2.1.3, SV.bool (pReap s x.2).2.1.4, SV.int IntKind.i64 (pReap s x.2).2.1.5, SV.str (pReap s x.2).2.1.6] :: (SV.int IntKind.i64 (pReap s x.2).2.2 :: (SV.tuple [SV.agg [SV.int IntKind.i64 (pReap s x.2).2.1.1, SV.int IntKind.i64 (pReap s x.2).2.1.2, SV.str (pReap s x.2).2.1.3, SV.bool (pReap s x.2).2.1.4, SV.int IntKind.i64 (pReap s x.2).2.1.5, SV.str (pReap s x.2).2.1.6], SV.int IntKind.i64 (pReap s x.2).2.2] :: (SV.ptr 2 br 0 :: (SV.ptr 3 b3 1 :: (SV.int IntKind.i64 x.2 :: (SV.tuple [SV.agg [SV.int IntKind.i64 (pReap s x.2).2.1.1, SV.int IntKind.i64 (pReap s x.2).2.1.2, SV.str (pReap s x.2).2.1.3, SV.bool (pReap s x.2).2.1.4, SV.int IntKind.i64 (pReap s x.2).2.1.5, SV.str (pReap s x.2).2.1.6], SV.int IntKind.i64 (pReap s x.2).2.2] :: (SV.agg [SV.int IntKind.i64 (pReap s x.2).2.1.1, SV.int IntKind.i64 (pReap s x.2).2.1.2, SV.str (pReap s x.2).2.1.3, SV.bool (pReap s x.2).2.1.4, SV.int IntKind.i64 (pReap s x.2).2.1.5, SV.str (pReap s x.2).2.1.6] :: (SV.int IntKind.i64 (pReap s x.2).2.2 :: (SV.agg [SV.int IntKind.i64 (pReap s x.2).2.1.1, SV.int IntKind.i64 (pReap s x.2).2.1.2, SV.str (pReap s x.2).2.1.3, SV.bool (pReap s x.2).2.1.4, SV.int IntKind.i64 (pReap s x.2).2.1.5, SV.str (pReap s x.2).2.1.6] :: (SV.agg [SV.int IntKind.i64 (pReap s x.2).2.1.1, SV.int IntKind.i64 (pReap s x.2).2.1.2, SV.str (pReap s x.2).2.1.3, SV.bool (pReap s x.2).2.1.4, SV.int IntKind.i64 (pReap s x.2).2.1.5, SV.str (pReap s x.2).2.1.6] :: (SV.bool false :: (SV.int IntKind.i64 (pReap s x.2).2.2 :: (SV.int IntKind.i64 (pReap s x.2).2.2 :: (rawR u 75 [] 147)))))))))))))))))))) 39))))))))))))) 3)))
                     [Ent.mk (Loc.sl ao cap) (SObj.roL 5 encStep bs (StepP.mk (0 : Int) (0 : Int) (0 : Int) (ByteArray.mk #[]) (ByteArray.mk #[]))),
                      pkA bt ptE (pReap s x.2).1, pkA br rtE (RT.mk (pReap s x.2).1 ao_1 cap_1),
                      Ent.mk (Loc.blk b3) (SObj.cells [SV.int IntKind.i64 x.1, SV.int IntKind.i64 x.2, SV.int IntKind.i64 x.3, SV.str x.4, SV.str x.5] (68 : TypeId)),
                      Ent.mk (Loc.blk b)
                       (SObj.cells
                        [SV.int IntKind.i64 (pReap s x.2).2.1.1, SV.int IntKind.i64 (pReap s x.2).2.1.2, SV.str (pReap s x.2).2.1.3, SV.bool (pReap s x.2).2.1.4,
                         SV.int IntKind.i64 (pReap s x.2).2.1.5, SV.str (pReap s x.2).2.1.6]
                        45),
                      Ent.mk (Loc.blk b_1)
                       (SObj.cells
                        [SV.int IntKind.i64 (pReap s x.2).2.1.1, SV.int IntKind.i64 (pReap s x.2).2.1.2, SV.str (pReap s x.2).2.1.3, SV.bool (pReap s x.2).2.1.4,
                         SV.int IntKind.i64 (pReap s x.2).2.1.5, SV.str (pReap s x.2).2.1.6]
                        45)])) := by kernel_rfl


theorem pp_23 (K : List Frm → Sy → Prop) (N : List Ent → SV → Prop) (J0 : Act → World → Prop) (ao : Option Addr) (cap : Nat) (bs : List StepP) (bt br : Nat) (s : PT) (aor : Option Addr) (capr : Nat) (i : Nat) (x : StepP) (b3 : Nat) (u : Nat → Value) : (run Try.prog ppT false [34] K (retP Try.prog Try.f8.results.toList N) 900 (frmR [J0] (bodyOf Try.f8) 23) ⟨mkT u 222 0 [(1, .vec 0 ao bs.length cap), (5, .ptr 1 bt 0), (6, .ptr 2 br 0), (7, .int .i64 (i : Int)), (8, .ptr 3 b3 0), (9, .int .i64 0), (10, .int .i64 0), (11, .int .i64 0), (12, .int .i64 0)], [⟨.sl ao cap, .roL 5 encStep bs StepP.zero⟩, pkA bt ptE s, pkA br rtE ⟨s, aor, capr⟩, ⟨.blk b3, .cells (encStep x) 68⟩]⟩) = (
b3 = b3 ∧
 b3 = b3 ∧
  b3 = b3 ∧
   true = true ∧
    bt = bt ∧
     ∃ (h : PT = PT),
      AdtIs (fun (s : PT) (b : Nat) ↦ packs (ptE s b)) ptE ∧
       pOk s ∧
        ∀ (nb : Nat),
         b3 = b3 ∧
          b3 = b3 ∧
           b3 = b3 ∧
            true = true ∧
             br = br ∧
              ∃ (h : RT = RT),
               AdtIs (fun (s : RT) (b : Nat) ↦ packs (rtE s b)) rtE ∧
                pOk (RT.mk s aor capr).t ∧
                 ∃ (nb_1 : Nat),
                  ∀ (ao_1 : Option Addr) (cap_1 : Nat),
                   K (frmR [J0] (bodyOf Try.f8) 34)
                    (Sy.mk (SV.raw (u 0) :: (SV.vec 0 ao (List.length bs) cap :: (rawR u 2 (SV.ptr 1 bt 0 :: (SV.ptr 2 br 0 :: (SV.int IntKind.i64 (↑i : Int) :: (SV.ptr 3 b3 0 :: (SV.int IntKind.i64 (pSpawn s x.2 x.4 x.5 nb).2.1 :: (SV.int IntKind.i64 (pSpawn s x.2 x.4 x.5 nb_1).2.1 :: (SV.int IntKind.i64 (pSpawn s x.2 x.4 x.5 nb_1).2.2 :: (SV.int IntKind.i64 (pSpawn s x.2 x.4 x.5 nb).2.2 :: (rawR u 13 (SV.tuple [SV.int IntKind.i64 (pSpawn s x.2 x.4 x.5 nb).2.1, SV.int IntKind.i64 (pSpawn s x.2 x.4 x.5 nb).2.2] :: (SV.ptr 1 bt 0 :: (SV.ptr 3 b3 1 :: (SV.int IntKind.i64 x.2 :: (SV.ptr 3 b3 3 :: (SV.str x.4 :: (SV.ptr 3 b3 4 :: (SV.str x.5 :: (SV.tuple [SV.int IntKind.i64 (pSpawn s x.2 x.4 x.5 nb).2.1, SV.int IntKind.i64 (pSpawn s x.2 x.4 x.5 nb).2.2] :: (SV.int IntKind.i64 (pSpawn s x.2 x.4 x.5 nb).2.1 :: (SV.int IntKind.i64 (pSpawn s x.2 x.4 x.5 nb).2.2 :: (SV.tuple [SV.int IntKind.i64 (pSpawn s x.2 x.4 x.5 nb_1).2.1, SV.int IntKind.i64 (pSpawn s x.2 x.4 x.5 nb_1).2.2] :: (SV.ptr 2 br 0 :: (SV.ptr 3 b3 1 :: (SV.int IntKind.i64 x.2 :: (SV.ptr 3 b3 3 :: (SV.str x.4 :: (SV.ptr 3 b3 4 :: (SV.str x.5 :: (SV.tuple [SV.int IntKind.i64 (pSpawn s x.2 x.4 x.5 nb_1).2.1, SV.int IntKind.i64 (pSpawn s x.2 x.4 x.5 nb_1).2.2] :: (SV.int IntKind.i64 (pSpawn s x.2 x.4 x.5 nb_1).2.1 :: (SV.int IntKind.i64 (pSpawn s x.2 x.4 x.5 nb_1).2.2 :: (rawR u 101 [] 121))))))))))))))))))))))) 66))))))))) 3)))
                     [Ent.mk (Loc.sl ao cap) (SObj.roL 5 encStep bs (StepP.mk (0 : Int) (0 : Int) (0 : Int) (ByteArray.mk #[]) (ByteArray.mk #[]))),
                      pkA bt ptE (pSpawn s x.2 x.4 x.5 nb).1, pkA br rtE (RT.mk (pSpawn s x.2 x.4 x.5 nb_1).1 ao_1 cap_1),
                      Ent.mk (Loc.blk b3) (SObj.cells [SV.int IntKind.i64 x.1, SV.int IntKind.i64 x.2, SV.int IntKind.i64 x.3, SV.str x.4, SV.str x.5] (68 : TypeId))])) := by kernel_rfl


theorem pp_27 (K : List Frm → Sy → Prop) (N : List Ent → SV → Prop) (J0 : Act → World → Prop) (ao : Option Addr) (cap : Nat) (bs : List StepP) (bt br : Nat) (s : PT) (aor : Option Addr) (capr : Nat) (i : Nat) (x : StepP) (b3 : Nat) (u : Nat → Value) : (run Try.prog ppT false [34] K (retP Try.prog Try.f8.results.toList N) 900 (frmR [J0] (bodyOf Try.f8) 27) ⟨mkT u 222 0 [(1, .vec 0 ao bs.length cap), (5, .ptr 1 bt 0), (6, .ptr 2 br 0), (7, .int .i64 (i : Int)), (8, .ptr 3 b3 0), (9, .int .i64 0), (10, .int .i64 0), (11, .int .i64 0), (12, .int .i64 0)], [⟨.sl ao cap, .roL 5 encStep bs StepP.zero⟩, pkA bt ptE s, pkA br rtE ⟨s, aor, capr⟩, ⟨.blk b3, .cells (encStep x) 68⟩]⟩) = (
b3 = b3 ∧
 true = true ∧
  bt = bt ∧
   ∃ (h : PT = PT),
    AdtIs (fun (s : PT) (b : Nat) ↦ packs (ptE s b)) ptE ∧
     pOk s ∧
      ∀ (nb : Nat),
       b3 = b3 ∧
        true = true ∧
         br = br ∧
          ∃ (h : RT = RT),
           AdtIs (fun (s : RT) (b : Nat) ↦ packs (rtE s b)) rtE ∧
            pOk (RT.mk s aor capr).t ∧
             ∃ (nb_1 : Nat),
              ∀ (ao_1 : Option Addr) (cap_1 : Nat),
               K (frmR [J0] (bodyOf Try.f8) 34)
                (Sy.mk (SV.raw (u 0) :: (SV.vec 0 ao (List.length bs) cap :: (rawR u 2 (SV.ptr 1 bt 0 :: (SV.ptr 2 br 0 :: (SV.int IntKind.i64 (↑i : Int) :: (SV.ptr 3 b3 0 :: (SV.int IntKind.i64 (pFork s x.2 nb).2.1 :: (SV.int IntKind.i64 (pFork s x.2 nb_1).2.1 :: (SV.int IntKind.i64 (pFork s x.2 nb_1).2.2 :: (SV.int IntKind.i64 (pFork s x.2 nb).2.2 :: (rawR u 13 (SV.tuple [SV.int IntKind.i64 (pFork s x.2 nb).2.1, SV.int IntKind.i64 (pFork s x.2 nb).2.2] :: (SV.ptr 1 bt 0 :: (SV.ptr 3 b3 1 :: (SV.int IntKind.i64 x.2 :: (SV.tuple [SV.int IntKind.i64 (pFork s x.2 nb).2.1, SV.int IntKind.i64 (pFork s x.2 nb).2.2] :: (SV.int IntKind.i64 (pFork s x.2 nb).2.1 :: (SV.int IntKind.i64 (pFork s x.2 nb).2.2 :: (SV.tuple [SV.int IntKind.i64 (pFork s x.2 nb_1).2.1, SV.int IntKind.i64 (pFork s x.2 nb_1).2.2] :: (SV.ptr 2 br 0 :: (SV.ptr 3 b3 1 :: (SV.int IntKind.i64 x.2 :: (SV.tuple [SV.int IntKind.i64 (pFork s x.2 nb_1).2.1, SV.int IntKind.i64 (pFork s x.2 nb_1).2.2] :: (SV.int IntKind.i64 (pFork s x.2 nb_1).2.1 :: (SV.int IntKind.i64 (pFork s x.2 nb_1).2.2 :: (rawR u 118 [] 104))))))))))))))) 91))))))))) 3)))
                 [Ent.mk (Loc.sl ao cap) (SObj.roL 5 encStep bs (StepP.mk (0 : Int) (0 : Int) (0 : Int) (ByteArray.mk #[]) (ByteArray.mk #[]))), pkA bt ptE (pFork s x.2 nb).1,
                  pkA br rtE (RT.mk (pFork s x.2 nb_1).1 ao_1 cap_1),
                  Ent.mk (Loc.blk b3) (SObj.cells [SV.int IntKind.i64 x.1, SV.int IntKind.i64 x.2, SV.int IntKind.i64 x.3, SV.str x.4, SV.str x.5] (68 : TypeId))])) := by kernel_rfl


theorem pp_31 (K : List Frm → Sy → Prop) (N : List Ent → SV → Prop) (J0 : Act → World → Prop) (ao : Option Addr) (cap : Nat) (bs : List StepP) (bt br : Nat) (s : PT) (aor : Option Addr) (capr : Nat) (i : Nat) (x : StepP) (b3 : Nat) (u : Nat → Value) : (run Try.prog ppT false [34] K (retP Try.prog Try.f8.results.toList N) 900 (frmR [J0] (bodyOf Try.f8) 31) ⟨mkT u 222 0 [(1, .vec 0 ao bs.length cap), (5, .ptr 1 bt 0), (6, .ptr 2 br 0), (7, .int .i64 (i : Int)), (8, .ptr 3 b3 0), (9, .int .i64 0), (10, .int .i64 0), (11, .int .i64 0), (12, .int .i64 0)], [⟨.sl ao cap, .roL 5 encStep bs StepP.zero⟩, pkA bt ptE s, pkA br rtE ⟨s, aor, capr⟩, ⟨.blk b3, .cells (encStep x) 68⟩]⟩) = (
(b3 = b3 ∧
 (b3 = b3 ∧
  (true = true ∧
   bt = bt ∧
    ∃ (h : PT = PT),
     AdtIs (fun (s : PT) (b : Nat) ↦ packs (ptE s b)) ptE ∧
      pOk s ∧
       (b3 = b3 ∧
        b3 = b3 ∧
         true = true ∧
          br = br ∧
           ∃ (h : RT = RT),
            AdtIs (fun (s : RT) (b : Nat) ↦ packs (rtE s b)) rtE ∧
             pOk (RT.mk s aor capr).t ∧
              K (frmR [J0] (bodyOf Try.f8) 34)
               (Sy.mk (SV.raw (u 0) :: (SV.vec 0 ao (List.length bs) cap :: (rawR u 2 (SV.ptr 1 bt 0 :: (SV.ptr 2 br 0 :: (SV.int IntKind.i64 (↑i : Int) :: (SV.ptr 3 b3 0 :: (SV.int IntKind.i64 (0 : Int) :: (SV.int IntKind.i64 (0 : Int) :: (SV.int IntKind.i64 (pExit s x.2 x.3).2 :: (SV.int IntKind.i64 (pExit s x.2 x.3).2 :: (rawR u 13 (SV.ptr 1 bt 0 :: (SV.ptr 3 b3 1 :: (SV.int IntKind.i64 x.2 :: (SV.ptr 3 b3 2 :: (SV.int IntKind.i64 x.3 :: (SV.int IntKind.i64 (pExit s x.2 x.3).2 :: (SV.ptr 2 br 0 :: (SV.ptr 3 b3 1 :: (SV.int IntKind.i64 x.2 :: (SV.ptr 3 b3 2 :: (SV.int IntKind.i64 x.3 :: (SV.int IntKind.i64 (pExit s x.2 x.3).2 :: (rawR u 133 [] 89))))))))))))) 108))))))))) 3)))
                [Ent.mk (Loc.sl ao cap) (SObj.roL 5 encStep bs (StepP.mk (0 : Int) (0 : Int) (0 : Int) (ByteArray.mk #[]) (ByteArray.mk #[]))),
                 pkA bt ptE (pExit s x.2 x.3).1, pkA br rtE (RT.mk (pExit s x.2 x.3).1 aor capr),
                 Ent.mk (Loc.blk b3) (SObj.cells [SV.int IntKind.i64 x.1, SV.int IntKind.i64 x.2, SV.int IntKind.i64 x.3, SV.str x.4, SV.str x.5] (68 : TypeId))])) ∧
        b3 = b3 ∧
         b3 = b3 ∧
          true = true ∧
           br = br ∧
            ∃ (h : RT = RT),
             AdtIs (fun (s : RT) (b : Nat) ↦ packs (rtE s b)) rtE ∧
              pOk (RT.mk s aor capr).t ∧
               K (frmR [J0] (bodyOf Try.f8) 34)
                (Sy.mk (SV.raw (u 0) :: (SV.vec 0 ao (List.length bs) cap :: (rawR u 2 (SV.ptr 1 bt 0 :: (SV.ptr 2 br 0 :: (SV.int IntKind.i64 (↑i : Int) :: (SV.ptr 3 b3 0 :: (SV.int IntKind.i64 (0 : Int) :: (SV.int IntKind.i64 (0 : Int) :: (SV.int IntKind.i64 (pExit s x.2 x.3).2 :: (SV.int IntKind.i64 (pExit s x.2 x.3).2 :: (rawR u 13 (SV.ptr 1 bt 0 :: (SV.ptr 3 b3 1 :: (SV.int IntKind.i64 x.2 :: (SV.ptr 3 b3 2 :: (SV.int IntKind.i64 x.3 :: (SV.int IntKind.i64 (pExit s x.2 x.3).2 :: (SV.ptr 2 br 0 :: (SV.ptr 3 b3 1 :: (SV.int IntKind.i64 x.2 :: (SV.ptr 3 b3 2 :: (SV.int IntKind.i64 x.3 :: (SV.int IntKind.i64 (pExit s x.2 x.3).2 :: (rawR u 133 [] 89))))))))))))) 108))))))))) 3)))
                 [Ent.mk (Loc.sl ao cap) (SObj.roL 5 encStep bs (StepP.mk (0 : Int) (0 : Int) (0 : Int) (ByteArray.mk #[]) (ByteArray.mk #[]))),
                  pkA bt ptE (pExit s x.2 x.3).1, pkA br rtE (RT.mk (pExit s x.2 x.3).1 aor capr),
                  Ent.mk (Loc.blk b3) (SObj.cells [SV.int IntKind.i64 x.1, SV.int IntKind.i64 x.2, SV.int IntKind.i64 x.3, SV.str x.4, SV.str x.5] (68 : TypeId))])) ∧
   (b3 = b3 ∧
    (true = true ∧
     bt = bt ∧
      ∃ (h : PT = PT),
       AdtIs (fun (s : PT) (b : Nat) ↦ packs (ptE s b)) ptE ∧
        pOk s ∧
         b3 = b3 ∧
          true = true ∧
           br = br ∧
            ∃ (h : RT = RT),
             AdtIs (fun (s : RT) (b : Nat) ↦ packs (rtE s b)) rtE ∧
              pOk (RT.mk s aor capr).t ∧
               K (frmR [J0] (bodyOf Try.f8) 34)
                (Sy.mk (SV.raw (u 0) :: (SV.vec 0 ao (List.length bs) cap :: (rawR u 2 (SV.ptr 1 bt 0 :: (SV.ptr 2 br 0 :: (SV.int IntKind.i64 (↑i : Int) :: (SV.ptr 3 b3 0 :: (SV.int IntKind.i64 (0 : Int) :: (SV.int IntKind.i64 (0 : Int) :: (SV.int IntKind.i64 (pExit s x.2 x.3).2 :: (SV.int IntKind.i64 (pExit s x.2 x.3).2 :: (rawR u 13 (SV.ptr 1 bt 0 :: (SV.ptr 3 b3 1 :: (SV.int IntKind.i64 x.2 :: (SV.ptr 3 b3 2 :: (SV.int IntKind.i64 x.3 :: (SV.int IntKind.i64 (pExit s x.2 x.3).2 :: (SV.ptr 2 br 0 :: (SV.ptr 3 b3 1 :: (SV.int IntKind.i64 x.2 :: (SV.ptr 3 b3 2 :: (SV.int IntKind.i64 x.3 :: (SV.int IntKind.i64 (pExit s x.2 x.3).2 :: (rawR u 133 [] 89))))))))))))) 108))))))))) 3)))
                 [Ent.mk (Loc.sl ao cap) (SObj.roL 5 encStep bs (StepP.mk (0 : Int) (0 : Int) (0 : Int) (ByteArray.mk #[]) (ByteArray.mk #[]))),
                  pkA bt ptE (pExit s x.2 x.3).1, pkA br rtE (RT.mk (pExit s x.2 x.3).1 aor capr),
                  Ent.mk (Loc.blk b3) (SObj.cells [SV.int IntKind.i64 x.1, SV.int IntKind.i64 x.2, SV.int IntKind.i64 x.3, SV.str x.4, SV.str x.5] (68 : TypeId))])) ∧
     b3 = b3 ∧
      true = true ∧
       bt = bt ∧
        ∃ (h : PT = PT),
         AdtIs (fun (s : PT) (b : Nat) ↦ packs (ptE s b)) ptE ∧
          pOk s ∧
           true = true ∧
            br = br ∧
             ∃ (h : RT = RT),
              AdtIs (fun (s : RT) (b : Nat) ↦ packs (rtE s b)) rtE ∧
               pOk (RT.mk s aor capr).t ∧
                K (frmR [J0] (bodyOf Try.f8) 34)
                 (Sy.mk (SV.raw (u 0) :: (SV.vec 0 ao (List.length bs) cap :: (rawR u 2 (SV.ptr 1 bt 0 :: (SV.ptr 2 br 0 :: (SV.int IntKind.i64 (↑i : Int) :: (SV.ptr 3 b3 0 :: (SV.int IntKind.i64 (0 : Int) :: (SV.int IntKind.i64 (0 : Int) :: (SV.int IntKind.i64 (pExit s x.2 x.3).2 :: (SV.int IntKind.i64 (pExit s x.2 x.3).2 :: (rawR u 13 (SV.ptr 1 bt 0 :: (SV.ptr 3 b3 1 :: (SV.int IntKind.i64 x.2 :: (SV.ptr 3 b3 2 :: (SV.int IntKind.i64 x.3 :: (SV.int IntKind.i64 (pExit s x.2 x.3).2 :: (SV.ptr 2 br 0 :: (SV.ptr 3 b3 1 :: (SV.int IntKind.i64 x.2 :: (SV.ptr 3 b3 2 :: (SV.int IntKind.i64 x.3 :: (SV.int IntKind.i64 (pExit s x.2 x.3).2 :: (rawR u 133 [] 89))))))))))))) 108))))))))) 3)))
                  [Ent.mk (Loc.sl ao cap) (SObj.roL 5 encStep bs (StepP.mk (0 : Int) (0 : Int) (0 : Int) (ByteArray.mk #[]) (ByteArray.mk #[]))),
                   pkA bt ptE (pExit s x.2 x.3).1, pkA br rtE (RT.mk (pExit s x.2 x.3).1 aor capr),
                   Ent.mk (Loc.blk b3) (SObj.cells [SV.int IntKind.i64 x.1, SV.int IntKind.i64 x.2, SV.int IntKind.i64 x.3, SV.str x.4, SV.str x.5] (68 : TypeId))])) ∧
    b3 = b3 ∧
     (true = true ∧
      bt = bt ∧
       ∃ (h : PT = PT),
        AdtIs (fun (s : PT) (b : Nat) ↦ packs (ptE s b)) ptE ∧
         pOk s ∧
          b3 = b3 ∧
           true = true ∧
            br = br ∧
             ∃ (h : RT = RT),
              AdtIs (fun (s : RT) (b : Nat) ↦ packs (rtE s b)) rtE ∧
               pOk (RT.mk s aor capr).t ∧
                K (frmR [J0] (bodyOf Try.f8) 34)
                 (Sy.mk (SV.raw (u 0) :: (SV.vec 0 ao (List.length bs) cap :: (rawR u 2 (SV.ptr 1 bt 0 :: (SV.ptr 2 br 0 :: (SV.int IntKind.i64 (↑i : Int) :: (SV.ptr 3 b3 0 :: (SV.int IntKind.i64 (0 : Int) :: (SV.int IntKind.i64 (0 : Int) :: (SV.int IntKind.i64 (pExit s x.2 x.3).2 :: (SV.int IntKind.i64 (pExit s x.2 x.3).2 :: (rawR u 13 (SV.ptr 1 bt 0 :: (SV.ptr 3 b3 1 :: (SV.int IntKind.i64 x.2 :: (SV.ptr 3 b3 2 :: (SV.int IntKind.i64 x.3 :: (SV.int IntKind.i64 (pExit s x.2 x.3).2 :: (SV.ptr 2 br 0 :: (SV.ptr 3 b3 1 :: (SV.int IntKind.i64 x.2 :: (SV.ptr 3 b3 2 :: (SV.int IntKind.i64 x.3 :: (SV.int IntKind.i64 (pExit s x.2 x.3).2 :: (rawR u 133 [] 89))))))))))))) 108))))))))) 3)))
                  [Ent.mk (Loc.sl ao cap) (SObj.roL 5 encStep bs (StepP.mk (0 : Int) (0 : Int) (0 : Int) (ByteArray.mk #[]) (ByteArray.mk #[]))),
                   pkA bt ptE (pExit s x.2 x.3).1, pkA br rtE (RT.mk (pExit s x.2 x.3).1 aor capr),
                   Ent.mk (Loc.blk b3) (SObj.cells [SV.int IntKind.i64 x.1, SV.int IntKind.i64 x.2, SV.int IntKind.i64 x.3, SV.str x.4, SV.str x.5] (68 : TypeId))])) ∧
      b3 = b3 ∧
       true = true ∧
        bt = bt ∧
         ∃ (h : PT = PT),
          AdtIs (fun (s : PT) (b : Nat) ↦ packs (ptE s b)) ptE ∧
           pOk s ∧
            true = true ∧
             br = br ∧
              ∃ (h : RT = RT),
               AdtIs (fun (s : RT) (b : Nat) ↦ packs (rtE s b)) rtE ∧
                pOk (RT.mk s aor capr).t ∧
                 K (frmR [J0] (bodyOf Try.f8) 34)
                  (Sy.mk (SV.raw (u 0) :: (SV.vec 0 ao (List.length bs) cap :: (rawR u 2 (SV.ptr 1 bt 0 :: (SV.ptr 2 br 0 :: (SV.int IntKind.i64 (↑i : Int) :: (SV.ptr 3 b3 0 :: (SV.int IntKind.i64 (0 : Int) :: (SV.int IntKind.i64 (0 : Int) :: (SV.int IntKind.i64 (pExit s x.2 x.3).2 :: (SV.int IntKind.i64 (pExit s x.2 x.3).2 :: (rawR u 13 (SV.ptr 1 bt 0 :: (SV.ptr 3 b3 1 :: (SV.int IntKind.i64 x.2 :: (SV.ptr 3 b3 2 :: (SV.int IntKind.i64 x.3 :: (SV.int IntKind.i64 (pExit s x.2 x.3).2 :: (SV.ptr 2 br 0 :: (SV.ptr 3 b3 1 :: (SV.int IntKind.i64 x.2 :: (SV.ptr 3 b3 2 :: (SV.int IntKind.i64 x.3 :: (SV.int IntKind.i64 (pExit s x.2 x.3).2 :: (rawR u 133 [] 89))))))))))))) 108))))))))) 3)))
                   [Ent.mk (Loc.sl ao cap) (SObj.roL 5 encStep bs (StepP.mk (0 : Int) (0 : Int) (0 : Int) (ByteArray.mk #[]) (ByteArray.mk #[]))),
                    pkA bt ptE (pExit s x.2 x.3).1, pkA br rtE (RT.mk (pExit s x.2 x.3).1 aor capr),
                    Ent.mk (Loc.blk b3) (SObj.cells [SV.int IntKind.i64 x.1, SV.int IntKind.i64 x.2, SV.int IntKind.i64 x.3, SV.str x.4, SV.str x.5] (68 : TypeId))])) ∧
  (b3 = b3 ∧
   (b3 = b3 ∧
    (true = true ∧
     bt = bt ∧
      ∃ (h : PT = PT),
       AdtIs (fun (s : PT) (b : Nat) ↦ packs (ptE s b)) ptE ∧
        pOk s ∧
         b3 = b3 ∧
          true = true ∧
           br = br ∧
            ∃ (h : RT = RT),
             AdtIs (fun (s : RT) (b : Nat) ↦ packs (rtE s b)) rtE ∧
              pOk (RT.mk s aor capr).t ∧
               K (frmR [J0] (bodyOf Try.f8) 34)
                (Sy.mk (SV.raw (u 0) :: (SV.vec 0 ao (List.length bs) cap :: (rawR u 2 (SV.ptr 1 bt 0 :: (SV.ptr 2 br 0 :: (SV.int IntKind.i64 (↑i : Int) :: (SV.ptr 3 b3 0 :: (SV.int IntKind.i64 (0 : Int) :: (SV.int IntKind.i64 (0 : Int) :: (SV.int IntKind.i64 (pExit s x.2 x.3).2 :: (SV.int IntKind.i64 (pExit s x.2 x.3).2 :: (rawR u 13 (SV.ptr 1 bt 0 :: (SV.ptr 3 b3 1 :: (SV.int IntKind.i64 x.2 :: (SV.ptr 3 b3 2 :: (SV.int IntKind.i64 x.3 :: (SV.int IntKind.i64 (pExit s x.2 x.3).2 :: (SV.ptr 2 br 0 :: (SV.ptr 3 b3 1 :: (SV.int IntKind.i64 x.2 :: (SV.ptr 3 b3 2 :: (SV.int IntKind.i64 x.3 :: (SV.int IntKind.i64 (pExit s x.2 x.3).2 :: (rawR u 133 [] 89))))))))))))) 108))))))))) 3)))
                 [Ent.mk (Loc.sl ao cap) (SObj.roL 5 encStep bs (StepP.mk (0 : Int) (0 : Int) (0 : Int) (ByteArray.mk #[]) (ByteArray.mk #[]))),
                  pkA bt ptE (pExit s x.2 x.3).1, pkA br rtE (RT.mk (pExit s x.2 x.3).1 aor capr),
                  Ent.mk (Loc.blk b3) (SObj.cells [SV.int IntKind.i64 x.1, SV.int IntKind.i64 x.2, SV.int IntKind.i64 x.3, SV.str x.4, SV.str x.5] (68 : TypeId))])) ∧
     b3 = b3 ∧
      true = true ∧
       bt = bt ∧
        ∃ (h : PT = PT),
         AdtIs (fun (s : PT) (b : Nat) ↦ packs (ptE s b)) ptE ∧
          pOk s ∧
           true = true ∧
            br = br ∧
             ∃ (h : RT = RT),
              AdtIs (fun (s : RT) (b : Nat) ↦ packs (rtE s b)) rtE ∧
               pOk (RT.mk s aor capr).t ∧
                K (frmR [J0] (bodyOf Try.f8) 34)
                 (Sy.mk (SV.raw (u 0) :: (SV.vec 0 ao (List.length bs) cap :: (rawR u 2 (SV.ptr 1 bt 0 :: (SV.ptr 2 br 0 :: (SV.int IntKind.i64 (↑i : Int) :: (SV.ptr 3 b3 0 :: (SV.int IntKind.i64 (0 : Int) :: (SV.int IntKind.i64 (0 : Int) :: (SV.int IntKind.i64 (pExit s x.2 x.3).2 :: (SV.int IntKind.i64 (pExit s x.2 x.3).2 :: (rawR u 13 (SV.ptr 1 bt 0 :: (SV.ptr 3 b3 1 :: (SV.int IntKind.i64 x.2 :: (SV.ptr 3 b3 2 :: (SV.int IntKind.i64 x.3 :: (SV.int IntKind.i64 (pExit s x.2 x.3).2 :: (SV.ptr 2 br 0 :: (SV.ptr 3 b3 1 :: (SV.int IntKind.i64 x.2 :: (SV.ptr 3 b3 2 :: (SV.int IntKind.i64 x.3 :: (SV.int IntKind.i64 (pExit s x.2 x.3).2 :: (rawR u 133 [] 89))))))))))))) 108))))))))) 3)))
                  [Ent.mk (Loc.sl ao cap) (SObj.roL 5 encStep bs (StepP.mk (0 : Int) (0 : Int) (0 : Int) (ByteArray.mk #[]) (ByteArray.mk #[]))),
                   pkA bt ptE (pExit s x.2 x.3).1, pkA br rtE (RT.mk (pExit s x.2 x.3).1 aor capr),
                   Ent.mk (Loc.blk b3) (SObj.cells [SV.int IntKind.i64 x.1, SV.int IntKind.i64 x.2, SV.int IntKind.i64 x.3, SV.str x.4, SV.str x.5] (68 : TypeId))])) ∧
    b3 = b3 ∧
     b3 = b3 ∧
      true = true ∧
       bt = bt ∧
        ∃ (h : PT = PT),
         AdtIs (fun (s : PT) (b : Nat) ↦ packs (ptE s b)) ptE ∧
          pOk s ∧
           true = true ∧
            br = br ∧
             ∃ (h : RT = RT),
              AdtIs (fun (s : RT) (b : Nat) ↦ packs (rtE s b)) rtE ∧
               pOk (RT.mk s aor capr).t ∧
                K (frmR [J0] (bodyOf Try.f8) 34)
                 (Sy.mk (SV.raw (u 0) :: (SV.vec 0 ao (List.length bs) cap :: (rawR u 2 (SV.ptr 1 bt 0 :: (SV.ptr 2 br 0 :: (SV.int IntKind.i64 (↑i : Int) :: (SV.ptr 3 b3 0 :: (SV.int IntKind.i64 (0 : Int) :: (SV.int IntKind.i64 (0 : Int) :: (SV.int IntKind.i64 (pExit s x.2 x.3).2 :: (SV.int IntKind.i64 (pExit s x.2 x.3).2 :: (rawR u 13 (SV.ptr 1 bt 0 :: (SV.ptr 3 b3 1 :: (SV.int IntKind.i64 x.2 :: (SV.ptr 3 b3 2 :: (SV.int IntKind.i64 x.3 :: (SV.int IntKind.i64 (pExit s x.2 x.3).2 :: (SV.ptr 2 br 0 :: (SV.ptr 3 b3 1 :: (SV.int IntKind.i64 x.2 :: (SV.ptr 3 b3 2 :: (SV.int IntKind.i64 x.3 :: (SV.int IntKind.i64 (pExit s x.2 x.3).2 :: (rawR u 133 [] 89))))))))))))) 108))))))))) 3)))
                  [Ent.mk (Loc.sl ao cap) (SObj.roL 5 encStep bs (StepP.mk (0 : Int) (0 : Int) (0 : Int) (ByteArray.mk #[]) (ByteArray.mk #[]))),
                   pkA bt ptE (pExit s x.2 x.3).1, pkA br rtE (RT.mk (pExit s x.2 x.3).1 aor capr),
                   Ent.mk (Loc.blk b3) (SObj.cells [SV.int IntKind.i64 x.1, SV.int IntKind.i64 x.2, SV.int IntKind.i64 x.3, SV.str x.4, SV.str x.5] (68 : TypeId))])) ∧
   b3 = b3 ∧
    (b3 = b3 ∧
     (true = true ∧
      bt = bt ∧
       ∃ (h : PT = PT),
        AdtIs (fun (s : PT) (b : Nat) ↦ packs (ptE s b)) ptE ∧
         pOk s ∧
          b3 = b3 ∧
           true = true ∧
            br = br ∧
             ∃ (h : RT = RT),
              AdtIs (fun (s : RT) (b : Nat) ↦ packs (rtE s b)) rtE ∧
               pOk (RT.mk s aor capr).t ∧
                K (frmR [J0] (bodyOf Try.f8) 34)
                 (Sy.mk (SV.raw (u 0) :: (SV.vec 0 ao (List.length bs) cap :: (rawR u 2 (SV.ptr 1 bt 0 :: (SV.ptr 2 br 0 :: (SV.int IntKind.i64 (↑i : Int) :: (SV.ptr 3 b3 0 :: (SV.int IntKind.i64 (0 : Int) :: (SV.int IntKind.i64 (0 : Int) :: (SV.int IntKind.i64 (pExit s x.2 x.3).2 :: (SV.int IntKind.i64 (pExit s x.2 x.3).2 :: (rawR u 13 (SV.ptr 1 bt 0 :: (SV.ptr 3 b3 1 :: (SV.int IntKind.i64 x.2 :: (SV.ptr 3 b3 2 :: (SV.int IntKind.i64 x.3 :: (SV.int IntKind.i64 (pExit s x.2 x.3).2 :: (SV.ptr 2 br 0 :: (SV.ptr 3 b3 1 :: (SV.int IntKind.i64 x.2 :: (SV.ptr 3 b3 2 :: (SV.int IntKind.i64 x.3 :: (SV.int IntKind.i64 (pExit s x.2 x.3).2 :: (rawR u 133 [] 89))))))))))))) 108))))))))) 3)))
                  [Ent.mk (Loc.sl ao cap) (SObj.roL 5 encStep bs (StepP.mk (0 : Int) (0 : Int) (0 : Int) (ByteArray.mk #[]) (ByteArray.mk #[]))),
                   pkA bt ptE (pExit s x.2 x.3).1, pkA br rtE (RT.mk (pExit s x.2 x.3).1 aor capr),
                   Ent.mk (Loc.blk b3) (SObj.cells [SV.int IntKind.i64 x.1, SV.int IntKind.i64 x.2, SV.int IntKind.i64 x.3, SV.str x.4, SV.str x.5] (68 : TypeId))])) ∧
      b3 = b3 ∧
       true = true ∧
        bt = bt ∧
         ∃ (h : PT = PT),
          AdtIs (fun (s : PT) (b : Nat) ↦ packs (ptE s b)) ptE ∧
           pOk s ∧
            true = true ∧
             br = br ∧
              ∃ (h : RT = RT),
               AdtIs (fun (s : RT) (b : Nat) ↦ packs (rtE s b)) rtE ∧
                pOk (RT.mk s aor capr).t ∧
                 K (frmR [J0] (bodyOf Try.f8) 34)
                  (Sy.mk (SV.raw (u 0) :: (SV.vec 0 ao (List.length bs) cap :: (rawR u 2 (SV.ptr 1 bt 0 :: (SV.ptr 2 br 0 :: (SV.int IntKind.i64 (↑i : Int) :: (SV.ptr 3 b3 0 :: (SV.int IntKind.i64 (0 : Int) :: (SV.int IntKind.i64 (0 : Int) :: (SV.int IntKind.i64 (pExit s x.2 x.3).2 :: (SV.int IntKind.i64 (pExit s x.2 x.3).2 :: (rawR u 13 (SV.ptr 1 bt 0 :: (SV.ptr 3 b3 1 :: (SV.int IntKind.i64 x.2 :: (SV.ptr 3 b3 2 :: (SV.int IntKind.i64 x.3 :: (SV.int IntKind.i64 (pExit s x.2 x.3).2 :: (SV.ptr 2 br 0 :: (SV.ptr 3 b3 1 :: (SV.int IntKind.i64 x.2 :: (SV.ptr 3 b3 2 :: (SV.int IntKind.i64 x.3 :: (SV.int IntKind.i64 (pExit s x.2 x.3).2 :: (rawR u 133 [] 89))))))))))))) 108))))))))) 3)))
                   [Ent.mk (Loc.sl ao cap) (SObj.roL 5 encStep bs (StepP.mk (0 : Int) (0 : Int) (0 : Int) (ByteArray.mk #[]) (ByteArray.mk #[]))),
                    pkA bt ptE (pExit s x.2 x.3).1, pkA br rtE (RT.mk (pExit s x.2 x.3).1 aor capr),
                    Ent.mk (Loc.blk b3) (SObj.cells [SV.int IntKind.i64 x.1, SV.int IntKind.i64 x.2, SV.int IntKind.i64 x.3, SV.str x.4, SV.str x.5] (68 : TypeId))])) ∧
     b3 = b3 ∧
      b3 = b3 ∧
       true = true ∧
        bt = bt ∧
         ∃ (h : PT = PT),
          AdtIs (fun (s : PT) (b : Nat) ↦ packs (ptE s b)) ptE ∧
           pOk s ∧
            true = true ∧
             br = br ∧
              ∃ (h : RT = RT),
               AdtIs (fun (s : RT) (b : Nat) ↦ packs (rtE s b)) rtE ∧
                pOk (RT.mk s aor capr).t ∧
                 K (frmR [J0] (bodyOf Try.f8) 34)
                  (Sy.mk (SV.raw (u 0) :: (SV.vec 0 ao (List.length bs) cap :: (rawR u 2 (SV.ptr 1 bt 0 :: (SV.ptr 2 br 0 :: (SV.int IntKind.i64 (↑i : Int) :: (SV.ptr 3 b3 0 :: (SV.int IntKind.i64 (0 : Int) :: (SV.int IntKind.i64 (0 : Int) :: (SV.int IntKind.i64 (pExit s x.2 x.3).2 :: (SV.int IntKind.i64 (pExit s x.2 x.3).2 :: (rawR u 13 (SV.ptr 1 bt 0 :: (SV.ptr 3 b3 1 :: (SV.int IntKind.i64 x.2 :: (SV.ptr 3 b3 2 :: (SV.int IntKind.i64 x.3 :: (SV.int IntKind.i64 (pExit s x.2 x.3).2 :: (SV.ptr 2 br 0 :: (SV.ptr 3 b3 1 :: (SV.int IntKind.i64 x.2 :: (SV.ptr 3 b3 2 :: (SV.int IntKind.i64 x.3 :: (SV.int IntKind.i64 (pExit s x.2 x.3).2 :: (rawR u 133 [] 89))))))))))))) 108))))))))) 3)))
                   [Ent.mk (Loc.sl ao cap) (SObj.roL 5 encStep bs (StepP.mk (0 : Int) (0 : Int) (0 : Int) (ByteArray.mk #[]) (ByteArray.mk #[]))),
                    pkA bt ptE (pExit s x.2 x.3).1, pkA br rtE (RT.mk (pExit s x.2 x.3).1 aor capr),
                    Ent.mk (Loc.blk b3) (SObj.cells [SV.int IntKind.i64 x.1, SV.int IntKind.i64 x.2, SV.int IntKind.i64 x.3, SV.str x.4, SV.str x.5] (68 : TypeId))])) ∧
 (b3 = b3 ∧
  (b3 = b3 ∧
   (true = true ∧
    bt = bt ∧
     ∃ (h : PT = PT),
      AdtIs (fun (s : PT) (b : Nat) ↦ packs (ptE s b)) ptE ∧
       pOk s ∧
        (b3 = b3 ∧
         b3 = b3 ∧
          true = true ∧
           br = br ∧
            ∃ (h : RT = RT),
             AdtIs (fun (s : RT) (b : Nat) ↦ packs (rtE s b)) rtE ∧
              pOk (RT.mk s aor capr).t ∧
               K (frmR [J0] (bodyOf Try.f8) 34)
                (Sy.mk (SV.raw (u 0) :: (SV.vec 0 ao (List.length bs) cap :: (rawR u 2 (SV.ptr 1 bt 0 :: (SV.ptr 2 br 0 :: (SV.int IntKind.i64 (↑i : Int) :: (SV.ptr 3 b3 0 :: (SV.int IntKind.i64 (0 : Int) :: (SV.int IntKind.i64 (0 : Int) :: (SV.int IntKind.i64 (pExit s x.2 x.3).2 :: (SV.int IntKind.i64 (pExit s x.2 x.3).2 :: (rawR u 13 (SV.ptr 1 bt 0 :: (SV.ptr 3 b3 1 :: (SV.int IntKind.i64 x.2 :: (SV.ptr 3 b3 2 :: (SV.int IntKind.i64 x.3 :: (SV.int IntKind.i64 (pExit s x.2 x.3).2 :: (SV.ptr 2 br 0 :: (SV.ptr 3 b3 1 :: (SV.int IntKind.i64 x.2 :: (SV.ptr 3 b3 2 :: (SV.int IntKind.i64 x.3 :: (SV.int IntKind.i64 (pExit s x.2 x.3).2 :: (rawR u 133 [] 89))))))))))))) 108))))))))) 3)))
                 [Ent.mk (Loc.sl ao cap) (SObj.roL 5 encStep bs (StepP.mk (0 : Int) (0 : Int) (0 : Int) (ByteArray.mk #[]) (ByteArray.mk #[]))),
                  pkA bt ptE (pExit s x.2 x.3).1, pkA br rtE (RT.mk (pExit s x.2 x.3).1 aor capr),
                  Ent.mk (Loc.blk b3) (SObj.cells [SV.int IntKind.i64 x.1, SV.int IntKind.i64 x.2, SV.int IntKind.i64 x.3, SV.str x.4, SV.str x.5] (68 : TypeId))])) ∧
         b3 = b3 ∧
          b3 = b3 ∧
           true = true ∧
            br = br ∧
             ∃ (h : RT = RT),
              AdtIs (fun (s : RT) (b : Nat) ↦ packs (rtE s b)) rtE ∧
               pOk (RT.mk s aor capr).t ∧
                K (frmR [J0] (bodyOf Try.f8) 34)
                 (Sy.mk (SV.raw (u 0) :: (SV.vec 0 ao (List.length bs) cap :: (rawR u 2 (SV.ptr 1 bt 0 :: (SV.ptr 2 br 0 :: (SV.int IntKind.i64 (↑i : Int) :: (SV.ptr 3 b3 0 :: (SV.int IntKind.i64 (0 : Int) :: (SV.int IntKind.i64 (0 : Int) :: (SV.int IntKind.i64 (pExit s x.2 x.3).2 :: (SV.int IntKind.i64 (pExit s x.2 x.3).2 :: (rawR u 13 (SV.ptr 1 bt 0 :: (SV.ptr 3 b3 1 :: (SV.int IntKind.i64 x.2 :: (SV.ptr 3 b3 2 :: (SV.int IntKind.i64 x.3 :: (SV.int IntKind.i64 (pExit s x.2 x.3).2 :: (SV.ptr 2 br 0 :: (SV.ptr 3 b3 1 :: (SV.int IntKind.i64 x.2 :: (SV.ptr 3 b3 2 :: (SV.int IntKind.i64 x.3 :: (SV.int IntKind.i64 (pExit s x.2 x.3).2 :: (rawR u 133 [] 89))))))))))))) 108))))))))) 3)))
                  [Ent.mk (Loc.sl ao cap) (SObj.roL 5 encStep bs (StepP.mk (0 : Int) (0 : Int) (0 : Int) (ByteArray.mk #[]) (ByteArray.mk #[]))),
                   pkA bt ptE (pExit s x.2 x.3).1, pkA br rtE (RT.mk (pExit s x.2 x.3).1 aor capr),
                   Ent.mk (Loc.blk b3) (SObj.cells [SV.int IntKind.i64 x.1, SV.int IntKind.i64 x.2, SV.int IntKind.i64 x.3, SV.str x.4, SV.str x.5] (68 : TypeId))])) ∧
    (b3 = b3 ∧
     (true = true ∧
      bt = bt ∧
       ∃ (h : PT = PT),
        AdtIs (fun (s : PT) (b : Nat) ↦ packs (ptE s b)) ptE ∧
         pOk s ∧
          b3 = b3 ∧
           true = true ∧
            br = br ∧
             ∃ (h : RT = RT),
              AdtIs (fun (s : RT) (b : Nat) ↦ packs (rtE s b)) rtE ∧
               pOk (RT.mk s aor capr).t ∧
                K (frmR [J0] (bodyOf Try.f8) 34)
                 (Sy.mk (SV.raw (u 0) :: (SV.vec 0 ao (List.length bs) cap :: (rawR u 2 (SV.ptr 1 bt 0 :: (SV.ptr 2 br 0 :: (SV.int IntKind.i64 (↑i : Int) :: (SV.ptr 3 b3 0 :: (SV.int IntKind.i64 (0 : Int) :: (SV.int IntKind.i64 (0 : Int) :: (SV.int IntKind.i64 (pExit s x.2 x.3).2 :: (SV.int IntKind.i64 (pExit s x.2 x.3).2 :: (rawR u 13 (SV.ptr 1 bt 0 :: (SV.ptr 3 b3 1 :: (SV.int IntKind.i64 x.2 :: (SV.ptr 3 b3 2 :: (SV.int IntKind.i64 x.3 :: (SV.int IntKind.i64 (pExit s x.2 x.3).2 :: (SV.ptr 2 br 0 :: (SV.ptr 3 b3 1 :: (SV.int IntKind.i64 x.2 :: (SV.ptr 3 b3 2 :: (SV.int IntKind.i64 x.3 :: (SV.int IntKind.i64 (pExit s x.2 x.3).2 :: (rawR u 133 [] 89))))))))))))) 108))))))))) 3)))
                  [Ent.mk (Loc.sl ao cap) (SObj.roL 5 encStep bs (StepP.mk (0 : Int) (0 : Int) (0 : Int) (ByteArray.mk #[]) (ByteArray.mk #[]))),
                   pkA bt ptE (pExit s x.2 x.3).1, pkA br rtE (RT.mk (pExit s x.2 x.3).1 aor capr),
                   Ent.mk (Loc.blk b3) (SObj.cells [SV.int IntKind.i64 x.1, SV.int IntKind.i64 x.2, SV.int IntKind.i64 x.3, SV.str x.4, SV.str x.5] (68 : TypeId))])) ∧
      b3 = b3 ∧
       true = true ∧
        bt = bt ∧
         ∃ (h : PT = PT),
          AdtIs (fun (s : PT) (b : Nat) ↦ packs (ptE s b)) ptE ∧
           pOk s ∧
            true = true ∧
             br = br ∧
              ∃ (h : RT = RT),
               AdtIs (fun (s : RT) (b : Nat) ↦ packs (rtE s b)) rtE ∧
                pOk (RT.mk s aor capr).t ∧
                 K (frmR [J0] (bodyOf Try.f8) 34)
                  (Sy.mk (SV.raw (u 0) :: (SV.vec 0 ao (List.length bs) cap :: (rawR u 2 (SV.ptr 1 bt 0 :: (SV.ptr 2 br 0 :: (SV.int IntKind.i64 (↑i : Int) :: (SV.ptr 3 b3 0 :: (SV.int IntKind.i64 (0 : Int) :: (SV.int IntKind.i64 (0 : Int) :: (SV.int IntKind.i64 (pExit s x.2 x.3).2 :: (SV.int IntKind.i64 (pExit s x.2 x.3).2 :: (rawR u 13 (SV.ptr 1 bt 0 :: (SV.ptr 3 b3 1 :: (SV.int IntKind.i64 x.2 :: (SV.ptr 3 b3 2 :: (SV.int IntKind.i64 x.3 :: (SV.int IntKind.i64 (pExit s x.2 x.3).2 :: (SV.ptr 2 br 0 :: (SV.ptr 3 b3 1 :: (SV.int IntKind.i64 x.2 :: (SV.ptr 3 b3 2 :: (SV.int IntKind.i64 x.3 :: (SV.int IntKind.i64 (pExit s x.2 x.3).2 :: (rawR u 133 [] 89))))))))))))) 108))))))))) 3)))
                   [Ent.mk (Loc.sl ao cap) (SObj.roL 5 encStep bs (StepP.mk (0 : Int) (0 : Int) (0 : Int) (ByteArray.mk #[]) (ByteArray.mk #[]))),
                    pkA bt ptE (pExit s x.2 x.3).1, pkA br rtE (RT.mk (pExit s x.2 x.3).1 aor capr),
                    Ent.mk (Loc.blk b3) (SObj.cells [SV.int IntKind.i64 x.1, SV.int IntKind.i64 x.2, SV.int IntKind.i64 x.3, SV.str x.4, SV.str x.5] (68 : TypeId))])) ∧
     b3 = b3 ∧
      (true = true ∧
       bt = bt ∧
        ∃ (h : PT = PT),
         AdtIs (fun (s : PT) (b : Nat) ↦ packs (ptE s b)) ptE ∧
          pOk s ∧
           b3 = b3 ∧
            true = true ∧
             br = br ∧
              ∃ (h : RT = RT),
               AdtIs (fun (s : RT) (b : Nat) ↦ packs (rtE s b)) rtE ∧
                pOk (RT.mk s aor capr).t ∧
                 K (frmR [J0] (bodyOf Try.f8) 34)
                  (Sy.mk (SV.raw (u 0) :: (SV.vec 0 ao (List.length bs) cap :: (rawR u 2 (SV.ptr 1 bt 0 :: (SV.ptr 2 br 0 :: (SV.int IntKind.i64 (↑i : Int) :: (SV.ptr 3 b3 0 :: (SV.int IntKind.i64 (0 : Int) :: (SV.int IntKind.i64 (0 : Int) :: (SV.int IntKind.i64 (pExit s x.2 x.3).2 :: (SV.int IntKind.i64 (pExit s x.2 x.3).2 :: (rawR u 13 (SV.ptr 1 bt 0 :: (SV.ptr 3 b3 1 :: (SV.int IntKind.i64 x.2 :: (SV.ptr 3 b3 2 :: (SV.int IntKind.i64 x.3 :: (SV.int IntKind.i64 (pExit s x.2 x.3).2 :: (SV.ptr 2 br 0 :: (SV.ptr 3 b3 1 :: (SV.int IntKind.i64 x.2 :: (SV.ptr 3 b3 2 :: (SV.int IntKind.i64 x.3 :: (SV.int IntKind.i64 (pExit s x.2 x.3).2 :: (rawR u 133 [] 89))))))))))))) 108))))))))) 3)))
                   [Ent.mk (Loc.sl ao cap) (SObj.roL 5 encStep bs (StepP.mk (0 : Int) (0 : Int) (0 : Int) (ByteArray.mk #[]) (ByteArray.mk #[]))),
                    pkA bt ptE (pExit s x.2 x.3).1, pkA br rtE (RT.mk (pExit s x.2 x.3).1 aor capr),
                    Ent.mk (Loc.blk b3) (SObj.cells [SV.int IntKind.i64 x.1, SV.int IntKind.i64 x.2, SV.int IntKind.i64 x.3, SV.str x.4, SV.str x.5] (68 : TypeId))])) ∧
       b3 = b3 ∧
        true = true ∧
         bt = bt ∧
          ∃ (h : PT = PT),
           AdtIs (fun (s : PT) (b : Nat) ↦ packs (ptE s b)) ptE ∧
            pOk s ∧
             true = true ∧
              br = br ∧
               ∃ (h : RT = RT),
                AdtIs (fun (s : RT) (b : Nat) ↦ packs (rtE s b)) rtE ∧
                 pOk (RT.mk s aor capr).t ∧
                  K (frmR [J0] (bodyOf Try.f8) 34)
                   (Sy.mk (SV.raw (u 0) :: (SV.vec 0 ao (List.length bs) cap :: (rawR u 2 (SV.ptr 1 bt 0 :: (SV.ptr 2 br 0 :: (SV.int IntKind.i64 (↑i : Int) :: (SV.ptr 3 b3 0 :: (SV.int IntKind.i64 (0 : Int) :: (SV.int IntKind.i64 (0 : Int) :: (SV.int IntKind.i64 (pExit s x.2 x.3).2 :: (SV.int IntKind.i64 (pExit s x.2 x.3).2 :: (rawR u 13 (SV.ptr 1 bt 0 :: (SV.ptr 3 b3 1 :: (SV.int IntKind.i64 x.2 :: (SV.ptr 3 b3 2 :: (SV.int IntKind.i64 x.3 :: (SV.int IntKind.i64 (pExit s x.2 x.3).2 :: (SV.ptr 2 br 0 :: (SV.ptr 3 b3 1 :: (SV.int IntKind.i64 x.2 :: (SV.ptr 3 b3 2 :: (SV.int IntKind.i64 x.3 :: (SV.int IntKind.i64 (pExit s x.2 x.3).2 :: (rawR u 133 [] 89))))))))))))) 108))))))))) 3)))
                    [Ent.mk (Loc.sl ao cap) (SObj.roL 5 encStep bs (StepP.mk (0 : Int) (0 : Int) (0 : Int) (ByteArray.mk #[]) (ByteArray.mk #[]))),
                     pkA bt ptE (pExit s x.2 x.3).1, pkA br rtE (RT.mk (pExit s x.2 x.3).1 aor capr),
                     Ent.mk (Loc.blk b3) (SObj.cells [SV.int IntKind.i64 x.1, SV.int IntKind.i64 x.2, SV.int IntKind.i64 x.3, SV.str x.4, SV.str x.5] (68 : TypeId))])) ∧
   (b3 = b3 ∧
    (b3 = b3 ∧
     (true = true ∧
      bt = bt ∧
       ∃ (h : PT = PT),
        AdtIs (fun (s : PT) (b : Nat) ↦ packs (ptE s b)) ptE ∧
         pOk s ∧
          b3 = b3 ∧
           true = true ∧
            br = br ∧
             ∃ (h : RT = RT),
              AdtIs (fun (s : RT) (b : Nat) ↦ packs (rtE s b)) rtE ∧
               pOk (RT.mk s aor capr).t ∧
                K (frmR [J0] (bodyOf Try.f8) 34)
                 (Sy.mk (SV.raw (u 0) :: (SV.vec 0 ao (List.length bs) cap :: (rawR u 2 (SV.ptr 1 bt 0 :: (SV.ptr 2 br 0 :: (SV.int IntKind.i64 (↑i : Int) :: (SV.ptr 3 b3 0 :: (SV.int IntKind.i64 (0 : Int) :: (SV.int IntKind.i64 (0 : Int) :: (SV.int IntKind.i64 (pExit s x.2 x.3).2 :: (SV.int IntKind.i64 (pExit s x.2 x.3).2 :: (rawR u 13 (SV.ptr 1 bt 0 :: (SV.ptr 3 b3 1 :: (SV.int IntKind.i64 x.2 :: (SV.ptr 3 b3 2 :: (SV.int IntKind.i64 x.3 :: (SV.int IntKind.i64 (pExit s x.2 x.3).2 :: (SV.ptr 2 br 0 :: (SV.ptr 3 b3 1 :: (SV.int IntKind.i64 x.2 :: (SV.ptr 3 b3 2 :: (SV.int IntKind.i64 x.3 :: (SV.int IntKind.i64 (pExit s x.2 x.3).2 :: (rawR u 133 [] 89))))))))))))) 108))))))))) 3)))
                  [Ent.mk (Loc.sl ao cap) (SObj.roL 5 encStep bs (StepP.mk (0 : Int) (0 : Int) (0 : Int) (ByteArray.mk #[]) (ByteArray.mk #[]))),
                   pkA bt ptE (pExit s x.2 x.3).1, pkA br rtE (RT.mk (pExit s x.2 x.3).1 aor capr),
                   Ent.mk (Loc.blk b3) (SObj.cells [SV.int IntKind.i64 x.1, SV.int IntKind.i64 x.2, SV.int IntKind.i64 x.3, SV.str x.4, SV.str x.5] (68 : TypeId))])) ∧
      b3 = b3 ∧
       true = true ∧
        bt = bt ∧
         ∃ (h : PT = PT),
          AdtIs (fun (s : PT) (b : Nat) ↦ packs (ptE s b)) ptE ∧
           pOk s ∧
            true = true ∧
             br = br ∧
              ∃ (h : RT = RT),
               AdtIs (fun (s : RT) (b : Nat) ↦ packs (rtE s b)) rtE ∧
                pOk (RT.mk s aor capr).t ∧
                 K (frmR [J0] (bodyOf Try.f8) 34)
                  (Sy.mk (SV.raw (u 0) :: (SV.vec 0 ao (List.length bs) cap :: (rawR u 2 (SV.ptr 1 bt 0 :: (SV.ptr 2 br 0 :: (SV.int IntKind.i64 (↑i : Int) :: (SV.ptr 3 b3 0 :: (SV.int IntKind.i64 (0 : Int) :: (SV.int IntKind.i64 (0 : Int) :: (SV.int IntKind.i64 (pExit s x.2 x.3).2 :: (SV.int IntKind.i64 (pExit s x.2 x.3).2 :: (rawR u 13 (SV.ptr 1 bt 0 :: (SV.ptr 3 b3 1 :: (SV.int IntKind.i64 x.2 :: (SV.ptr 3 b3 2 :: (SV.int IntKind.i64 x.3 :: (SV.int IntKind.i64 (pExit s x.2 x.3).2 :: (SV.ptr 2 br 0 :: (SV.ptr 3 b3 1 :: (SV.int IntKind.i64 x.2 :: (SV.ptr 3 b3 2 :: (SV.int IntKind.i64 x.3 :: (SV.int IntKind.i64 (pExit s x.2 x.3).2 :: (rawR u 133 [] 89))))))))))))) 108))))))))) 3)))
                   [Ent.mk (Loc.sl ao cap) (SObj.roL 5 encStep bs (StepP.mk (0 : Int) (0 : Int) (0 : Int) (ByteArray.mk #[]) (ByteArray.mk #[]))),
                    pkA bt ptE (pExit s x.2 x.3).1, pkA br rtE (RT.mk (pExit s x.2 x.3).1 aor capr),
                    Ent.mk (Loc.blk b3) (SObj.cells [SV.int IntKind.i64 x.1, SV.int IntKind.i64 x.2, SV.int IntKind.i64 x.3, SV.str x.4, SV.str x.5] (68 : TypeId))])) ∧
     b3 = b3 ∧
      b3 = b3 ∧
       true = true ∧
        bt = bt ∧
         ∃ (h : PT = PT),
          AdtIs (fun (s : PT) (b : Nat) ↦ packs (ptE s b)) ptE ∧
           pOk s ∧
            true = true ∧
             br = br ∧
              ∃ (h : RT = RT),
               AdtIs (fun (s : RT) (b : Nat) ↦ packs (rtE s b)) rtE ∧
                pOk (RT.mk s aor capr).t ∧
                 K (frmR [J0] (bodyOf Try.f8) 34)
                  (Sy.mk (SV.raw (u 0) :: (SV.vec 0 ao (List.length bs) cap :: (rawR u 2 (SV.ptr 1 bt 0 :: (SV.ptr 2 br 0 :: (SV.int IntKind.i64 (↑i : Int) :: (SV.ptr 3 b3 0 :: (SV.int IntKind.i64 (0 : Int) :: (SV.int IntKind.i64 (0 : Int) :: (SV.int IntKind.i64 (pExit s x.2 x.3).2 :: (SV.int IntKind.i64 (pExit s x.2 x.3).2 :: (rawR u 13 (SV.ptr 1 bt 0 :: (SV.ptr 3 b3 1 :: (SV.int IntKind.i64 x.2 :: (SV.ptr 3 b3 2 :: (SV.int IntKind.i64 x.3 :: (SV.int IntKind.i64 (pExit s x.2 x.3).2 :: (SV.ptr 2 br 0 :: (SV.ptr 3 b3 1 :: (SV.int IntKind.i64 x.2 :: (SV.ptr 3 b3 2 :: (SV.int IntKind.i64 x.3 :: (SV.int IntKind.i64 (pExit s x.2 x.3).2 :: (rawR u 133 [] 89))))))))))))) 108))))))))) 3)))
                   [Ent.mk (Loc.sl ao cap) (SObj.roL 5 encStep bs (StepP.mk (0 : Int) (0 : Int) (0 : Int) (ByteArray.mk #[]) (ByteArray.mk #[]))),
                    pkA bt ptE (pExit s x.2 x.3).1, pkA br rtE (RT.mk (pExit s x.2 x.3).1 aor capr),
                    Ent.mk (Loc.blk b3) (SObj.cells [SV.int IntKind.i64 x.1, SV.int IntKind.i64 x.2, SV.int IntKind.i64 x.3, SV.str x.4, SV.str x.5] (68 : TypeId))])) ∧
    b3 = b3 ∧
     (b3 = b3 ∧
      (true = true ∧
       bt = bt ∧
        ∃ (h : PT = PT),
         AdtIs (fun (s : PT) (b : Nat) ↦ packs (ptE s b)) ptE ∧
          pOk s ∧
           b3 = b3 ∧
            true = true ∧
             br = br ∧
              ∃ (h : RT = RT),
               AdtIs (fun (s : RT) (b : Nat) ↦ packs (rtE s b)) rtE ∧
                pOk (RT.mk s aor capr).t ∧
                 K (frmR [J0] (bodyOf Try.f8) 34)
                  (Sy.mk (SV.raw (u 0) :: (SV.vec 0 ao (List.length bs) cap :: (rawR u 2 (SV.ptr 1 bt 0 :: (SV.ptr 2 br 0 :: (SV.int IntKind.i64 (↑i : Int) :: (SV.ptr 3 b3 0 :: (SV.int IntKind.i64 (0 : Int) :: (SV.int IntKind.i64 (0 : Int) :: (SV.int IntKind.i64 (pExit s x.2 x.3).2 :: (SV.int IntKind.i64 (pExit s x.2 x.3).2 :: (rawR u 13 (SV.ptr 1 bt 0 :: (SV.ptr 3 b3 1 :: (SV.int IntKind.i64 x.2 :: (SV.ptr 3 b3 2 :: (SV.int IntKind.i64 x.3 :: (SV.int IntKind.i64 (pExit s x.2 x.3).2 :: (SV.ptr 2 br 0 :: (SV.ptr 3 b3 1 :: (SV.int IntKind.i64 x.2 :: (SV.ptr 3 b3 2 :: (SV.int IntKind.i64 x.3 :: (SV.int IntKind.i64 (pExit s x.2 x.3).2 :: (rawR u 133 [] 89))))))))))))) 108))))))))) 3)))
                   [Ent.mk (Loc.sl ao cap) (SObj.roL 5 encStep bs (StepP.mk (0 : Int) (0 : Int) (0 : Int) (ByteArray.mk #[]) (ByteArray.mk #[]))),
                    pkA bt ptE (pExit s x.2 x.3).1, pkA br rtE (RT.mk (pExit s x.2 x.3).1 aor capr),
                    Ent.mk (Loc.blk b3) (SObj.cells [SV.int IntKind.i64 x.1, SV.int IntKind.i64 x.2, SV.int IntKind.i64 x.3, SV.str x.4, SV.str x.5] (68 : TypeId))])) ∧
       b3 = b3 ∧
        true = true ∧
         bt = bt ∧
          ∃ (h : PT = PT),
           AdtIs (fun (s : PT) (b : Nat) ↦ packs (ptE s b)) ptE ∧
            pOk s ∧
             true = true ∧
              br = br ∧
               ∃ (h : RT = RT),
                AdtIs (fun (s : RT) (b : Nat) ↦ packs (rtE s b)) rtE ∧
                 pOk (RT.mk s aor capr).t ∧
                  K (frmR [J0] (bodyOf Try.f8) 34)
                   (Sy.mk (SV.raw (u 0) :: (SV.vec 0 ao (List.length bs) cap :: (rawR u 2 (SV.ptr 1 bt 0 :: (SV.ptr 2 br 0 :: (SV.int IntKind.i64 (↑i : Int) :: (SV.ptr 3 b3 0 :: (SV.int IntKind.i64 (0 : Int) :: (SV.int IntKind.i64 (0 : Int) :: (SV.int IntKind.i64 (pExit s x.2 x.3).2 :: (SV.int IntKind.i64 (pExit s x.2 x.3).2 :: (rawR u 13 (SV.ptr 1 bt 0 :: (SV.ptr 3 b3 1 :: (SV.int IntKind.i64 x.2 :: (SV.ptr 3 b3 2 :: (SV.int IntKind.i64 x.3 :: (SV.int IntKind.i64 (pExit s x.2 x.3).2 :: (SV.ptr 2 br 0 :: (SV.ptr 3 b3 1 :: (SV.int IntKind.i64 x.2 :: (SV.ptr 3 b3 2 :: (SV.int IntKind.i64 x.3 :: (SV.int IntKind.i64 (pExit s x.2 x.3).2 :: (rawR u 133 [] 89))))))))))))) 108))))))))) 3)))
                    [Ent.mk (Loc.sl ao cap) (SObj.roL 5 encStep bs (StepP.mk (0 : Int) (0 : Int) (0 : Int) (ByteArray.mk #[]) (ByteArray.mk #[]))),
                     pkA bt ptE (pExit s x.2 x.3).1, pkA br rtE (RT.mk (pExit s x.2 x.3).1 aor capr),
                     Ent.mk (Loc.blk b3) (SObj.cells [SV.int IntKind.i64 x.1, SV.int IntKind.i64 x.2, SV.int IntKind.i64 x.3, SV.str x.4, SV.str x.5] (68 : TypeId))])) ∧
      b3 = b3 ∧
       b3 = b3 ∧
        true = true ∧
         bt = bt ∧
          ∃ (h : PT = PT),
           AdtIs (fun (s : PT) (b : Nat) ↦ packs (ptE s b)) ptE ∧
            pOk s ∧
             true = true ∧
              br = br ∧
               ∃ (h : RT = RT),
                AdtIs (fun (s : RT) (b : Nat) ↦ packs (rtE s b)) rtE ∧
                 pOk (RT.mk s aor capr).t ∧
                  K (frmR [J0] (bodyOf Try.f8) 34)
                   (Sy.mk (SV.raw (u 0) :: (SV.vec 0 ao (List.length bs) cap :: (rawR u 2 (SV.ptr 1 bt 0 :: (SV.ptr 2 br 0 :: (SV.int IntKind.i64 (↑i : Int) :: (SV.ptr 3 b3 0 :: (SV.int IntKind.i64 (0 : Int) :: (SV.int IntKind.i64 (0 : Int) :: (SV.int IntKind.i64 (pExit s x.2 x.3).2 :: (SV.int IntKind.i64 (pExit s x.2 x.3).2 :: (rawR u 13 (SV.ptr 1 bt 0 :: (SV.ptr 3 b3 1 :: (SV.int IntKind.i64 x.2 :: (SV.ptr 3 b3 2 :: (SV.int IntKind.i64 x.3 :: (SV.int IntKind.i64 (pExit s x.2 x.3).2 :: (SV.ptr 2 br 0 :: (SV.ptr 3 b3 1 :: (SV.int IntKind.i64 x.2 :: (SV.ptr 3 b3 2 :: (SV.int IntKind.i64 x.3 :: (SV.int IntKind.i64 (pExit s x.2 x.3).2 :: (rawR u 133 [] 89))))))))))))) 108))))))))) 3)))
                    [Ent.mk (Loc.sl ao cap) (SObj.roL 5 encStep bs (StepP.mk (0 : Int) (0 : Int) (0 : Int) (ByteArray.mk #[]) (ByteArray.mk #[]))),
                     pkA bt ptE (pExit s x.2 x.3).1, pkA br rtE (RT.mk (pExit s x.2 x.3).1 aor capr),
                     Ent.mk (Loc.blk b3) (SObj.cells [SV.int IntKind.i64 x.1, SV.int IntKind.i64 x.2, SV.int IntKind.i64 x.3, SV.str x.4, SV.str x.5] (68 : TypeId))])) ∧
  (b3 = b3 ∧
   (b3 = b3 ∧
    (b3 = b3 ∧
     (true = true ∧
      bt = bt ∧
       ∃ (h : PT = PT),
        AdtIs (fun (s : PT) (b : Nat) ↦ packs (ptE s b)) ptE ∧
         pOk s ∧
          b3 = b3 ∧
           true = true ∧
            br = br ∧
             ∃ (h : RT = RT),
              AdtIs (fun (s : RT) (b : Nat) ↦ packs (rtE s b)) rtE ∧
               pOk (RT.mk s aor capr).t ∧
                K (frmR [J0] (bodyOf Try.f8) 34)
                 (Sy.mk (SV.raw (u 0) :: (SV.vec 0 ao (List.length bs) cap :: (rawR u 2 (SV.ptr 1 bt 0 :: (SV.ptr 2 br 0 :: (SV.int IntKind.i64 (↑i : Int) :: (SV.ptr 3 b3 0 :: (SV.int IntKind.i64 (0 : Int) :: (SV.int IntKind.i64 (0 : Int) :: (SV.int IntKind.i64 (pExit s x.2 x.3).2 :: (SV.int IntKind.i64 (pExit s x.2 x.3).2 :: (rawR u 13 (SV.ptr 1 bt 0 :: (SV.ptr 3 b3 1 :: (SV.int IntKind.i64 x.2 :: (SV.ptr 3 b3 2 :: (SV.int IntKind.i64 x.3 :: (SV.int IntKind.i64 (pExit s x.2 x.3).2 :: (SV.ptr 2 br 0 :: (SV.ptr 3 b3 1 :: (SV.int IntKind.i64 x.2 :: (SV.ptr 3 b3 2 :: (SV.int IntKind.i64 x.3 :: (SV.int IntKind.i64 (pExit s x.2 x.3).2 :: (rawR u 133 [] 89))))))))))))) 108))))))))) 3)))
                  [Ent.mk (Loc.sl ao cap) (SObj.roL 5 encStep bs (StepP.mk (0 : Int) (0 : Int) (0 : Int) (ByteArray.mk #[]) (ByteArray.mk #[]))),
                   pkA bt ptE (pExit s x.2 x.3).1, pkA br rtE (RT.mk (pExit s x.2 x.3).1 aor capr),
                   Ent.mk (Loc.blk b3) (SObj.cells [SV.int IntKind.i64 x.1, SV.int IntKind.i64 x.2, SV.int IntKind.i64 x.3, SV.str x.4, SV.str x.5] (68 : TypeId))])) ∧
      b3 = b3 ∧
       true = true ∧
        bt = bt ∧
         ∃ (h : PT = PT),
          AdtIs (fun (s : PT) (b : Nat) ↦ packs (ptE s b)) ptE ∧
           pOk s ∧
            true = true ∧
             br = br ∧
              ∃ (h : RT = RT),
               AdtIs (fun (s : RT) (b : Nat) ↦ packs (rtE s b)) rtE ∧
                pOk (RT.mk s aor capr).t ∧
                 K (frmR [J0] (bodyOf Try.f8) 34)
                  (Sy.mk (SV.raw (u 0) :: (SV.vec 0 ao (List.length bs) cap :: (rawR u 2 (SV.ptr 1 bt 0 :: (SV.ptr 2 br 0 :: (SV.int IntKind.i64 (↑i : Int) :: (SV.ptr 3 b3 0 :: (SV.int IntKind.i64 (0 : Int) :: (SV.int IntKind.i64 (0 : Int) :: (SV.int IntKind.i64 (pExit s x.2 x.3).2 :: (SV.int IntKind.i64 (pExit s x.2 x.3).2 :: (rawR u 13 (SV.ptr 1 bt 0 :: (SV.ptr 3 b3 1 :: (SV.int IntKind.i64 x.2 :: (SV.ptr 3 b3 2 :: (SV.int IntKind.i64 x.3 :: (SV.int IntKind.i64 (pExit s x.2 x.3).2 :: (SV.ptr 2 br 0 :: (SV.ptr 3 b3 1 :: (SV.int IntKind.i64 x.2 :: (SV.ptr 3 b3 2 :: (SV.int IntKind.i64 x.3 :: (SV.int IntKind.i64 (pExit s x.2 x.3).2 :: (rawR u 133 [] 89))))))))))))) 108))))))))) 3)))
                   [Ent.mk (Loc.sl ao cap) (SObj.roL 5 encStep bs (StepP.mk (0 : Int) (0 : Int) (0 : Int) (ByteArray.mk #[]) (ByteArray.mk #[]))),
                    pkA bt ptE (pExit s x.2 x.3).1, pkA br rtE (RT.mk (pExit s x.2 x.3).1 aor capr),
                    Ent.mk (Loc.blk b3) (SObj.cells [SV.int IntKind.i64 x.1, SV.int IntKind.i64 x.2, SV.int IntKind.i64 x.3, SV.str x.4, SV.str x.5] (68 : TypeId))])) ∧
     b3 = b3 ∧
      b3 = b3 ∧
       true = true ∧
        bt = bt ∧
         ∃ (h : PT = PT),
          AdtIs (fun (s : PT) (b : Nat) ↦ packs (ptE s b)) ptE ∧
           pOk s ∧
            true = true ∧
             br = br ∧
              ∃ (h : RT = RT),
               AdtIs (fun (s : RT) (b : Nat) ↦ packs (rtE s b)) rtE ∧
                pOk (RT.mk s aor capr).t ∧
                 K (frmR [J0] (bodyOf Try.f8) 34)
                  (Sy.mk (SV.raw (u 0) :: (SV.vec 0 ao (List.length bs) cap :: (rawR u 2 (SV.ptr 1 bt 0 :: (SV.ptr 2 br 0 :: (SV.int IntKind.i64 (↑i : Int) :: (SV.ptr 3 b3 0 :: (SV.int IntKind.i64 (0 : Int) :: (SV.int IntKind.i64 (0 : Int) :: (SV.int IntKind.i64 (pExit s x.2 x.3).2 :: (SV.int IntKind.i64 (pExit s x.2 x.3).2 :: (rawR u 13 (SV.ptr 1 bt 0 :: (SV.ptr 3 b3 1 :: (SV.int IntKind.i64 x.2 :: (SV.ptr 3 b3 2 :: (SV.int IntKind.i64 x.3 :: (SV.int IntKind.i64 (pExit s x.2 x.3).2 :: (SV.ptr 2 br 0 :: (SV.ptr 3 b3 1 :: (SV.int IntKind.i64 x.2 :: (SV.ptr 3 b3 2 :: (SV.int IntKind.i64 x.3 :: (SV.int IntKind.i64 (pExit s x.2 x.3).2 :: (rawR u 133 [] 89))))))))))))) 108))))))))) 3)))
                   [Ent.mk (Loc.sl ao cap) (SObj.roL 5 encStep bs (StepP.mk (0 : Int) (0 : Int) (0 : Int) (ByteArray.mk #[]) (ByteArray.mk #[]))),
                    pkA bt ptE (pExit s x.2 x.3).1, pkA br rtE (RT.mk (pExit s x.2 x.3).1 aor capr),
                    Ent.mk (Loc.blk b3) (SObj.cells [SV.int IntKind.i64 x.1, SV.int IntKind.i64 x.2, SV.int IntKind.i64 x.3, SV.str x.4, SV.str x.5] (68 : TypeId))])) ∧
    (b3 = b3 ∧
     (b3 = b3 ∧
      (true = true ∧
       bt = bt ∧
        ∃ (h : PT = PT),
         AdtIs (fun (s : PT) (b : Nat) ↦ packs (ptE s b)) ptE ∧
          pOk s ∧
           b3 = b3 ∧
            true = true ∧
             br = br ∧
              ∃ (h : RT = RT),
               AdtIs (fun (s : RT) (b : Nat) ↦ packs (rtE s b)) rtE ∧
                pOk (RT.mk s aor capr).t ∧
                 K (frmR [J0] (bodyOf Try.f8) 34)
                  (Sy.mk (SV.raw (u 0) :: (SV.vec 0 ao (List.length bs) cap :: (rawR u 2 (SV.ptr 1 bt 0 :: (SV.ptr 2 br 0 :: (SV.int IntKind.i64 (↑i : Int) :: (SV.ptr 3 b3 0 :: (SV.int IntKind.i64 (0 : Int) :: (SV.int IntKind.i64 (0 : Int) :: (SV.int IntKind.i64 (pExit s x.2 x.3).2 :: (SV.int IntKind.i64 (pExit s x.2 x.3).2 :: (rawR u 13 (SV.ptr 1 bt 0 :: (SV.ptr 3 b3 1 :: (SV.int IntKind.i64 x.2 :: (SV.ptr 3 b3 2 :: (SV.int IntKind.i64 x.3 :: (SV.int IntKind.i64 (pExit s x.2 x.3).2 :: (SV.ptr 2 br 0 :: (SV.ptr 3 b3 1 :: (SV.int IntKind.i64 x.2 :: (SV.ptr 3 b3 2 :: (SV.int IntKind.i64 x.3 :: (SV.int IntKind.i64 (pExit s x.2 x.3).2 :: (rawR u 133 [] 89))))))))))))) 108))))))))) 3)))
                   [Ent.mk (Loc.sl ao cap) (SObj.roL 5 encStep bs (StepP.mk (0 : Int) (0 : Int) (0 : Int) (ByteArray.mk #[]) (ByteArray.mk #[]))),
                    pkA bt ptE (pExit s x.2 x.3).1, pkA br rtE (RT.mk (pExit s x.2 x.3).1 aor capr),
                    Ent.mk (Loc.blk b3) (SObj.cells [SV.int IntKind.i64 x.1, SV.int IntKind.i64 x.2, SV.int IntKind.i64 x.3, SV.str x.4, SV.str x.5] (68 : TypeId))])) ∧
       b3 = b3 ∧
        true = true ∧
         bt = bt ∧
          ∃ (h : PT = PT),
           AdtIs (fun (s : PT) (b : Nat) ↦ packs (ptE s b)) ptE ∧
            pOk s ∧
             true = true ∧
              br = br ∧
               ∃ (h : RT = RT),
                AdtIs (fun (s : RT) (b : Nat) ↦ packs (rtE s b)) rtE ∧
                 pOk (RT.mk s aor capr).t ∧
                  K (frmR [J0] (bodyOf Try.f8) 34)
                   (Sy.mk (SV.raw (u 0) :: (SV.vec 0 ao (List.length bs) cap :: (rawR u 2 (SV.ptr 1 bt 0 :: (SV.ptr 2 br 0 :: (SV.int IntKind.i64 (↑i : Int) :: (SV.ptr 3 b3 0 :: (SV.int IntKind.i64 (0 : Int) :: (SV.int IntKind.i64 (0 : Int) :: (SV.int IntKind.i64 (pExit s x.2 x.3).2 :: (SV.int IntKind.i64 (pExit s x.2 x.3).2 :: (rawR u 13 (SV.ptr 1 bt 0 :: (SV.ptr 3 b3 1 :: (SV.int IntKind.i64 x.2 :: (SV.ptr 3 b3 2 :: (SV.int IntKind.i64 x.3 :: (SV.int IntKind.i64 (pExit s x.2 x.3).2 :: (SV.ptr 2 br 0 :: (SV.ptr 3 b3 1 :: (SV.int IntKind.i64 x.2 :: (SV.ptr 3 b3 2 :: (SV.int IntKind.i64 x.3 :: (SV.int IntKind.i64 (pExit s x.2 x.3).2 :: (rawR u 133 [] 89))))))))))))) 108))))))))) 3)))
                    [Ent.mk (Loc.sl ao cap) (SObj.roL 5 encStep bs (StepP.mk (0 : Int) (0 : Int) (0 : Int) (ByteArray.mk #[]) (ByteArray.mk #[]))),
                     pkA bt ptE (pExit s x.2 x.3).1, pkA br rtE (RT.mk (pExit s x.2 x.3).1 aor capr),
                     Ent.mk (Loc.blk b3) (SObj.cells [SV.int IntKind.i64 x.1, SV.int IntKind.i64 x.2, SV.int IntKind.i64 x.3, SV.str x.4, SV.str x.5] (68 : TypeId))])) ∧
      b3 = b3 ∧
       b3 = b3 ∧
        true = true ∧
         bt = bt ∧
          ∃ (h : PT = PT),
           AdtIs (fun (s : PT) (b : Nat) ↦ packs (ptE s b)) ptE ∧
            pOk s ∧
             true = true ∧
              br = br ∧
               ∃ (h : RT = RT),
                AdtIs (fun (s : RT) (b : Nat) ↦ packs (rtE s b)) rtE ∧
                 pOk (RT.mk s aor capr).t ∧
                  K (frmR [J0] (bodyOf Try.f8) 34)
                   (Sy.mk (SV.raw (u 0) :: (SV.vec 0 ao (List.length bs) cap :: (rawR u 2 (SV.ptr 1 bt 0 :: (SV.ptr 2 br 0 :: (SV.int IntKind.i64 (↑i : Int) :: (SV.ptr 3 b3 0 :: (SV.int IntKind.i64 (0 : Int) :: (SV.int IntKind.i64 (0 : Int) :: (SV.int IntKind.i64 (pExit s x.2 x.3).2 :: (SV.int IntKind.i64 (pExit s x.2 x.3).2 :: (rawR u 13 (SV.ptr 1 bt 0 :: (SV.ptr 3 b3 1 :: (SV.int IntKind.i64 x.2 :: (SV.ptr 3 b3 2 :: (SV.int IntKind.i64 x.3 :: (SV.int IntKind.i64 (pExit s x.2 x.3).2 :: (SV.ptr 2 br 0 :: (SV.ptr 3 b3 1 :: (SV.int IntKind.i64 x.2 :: (SV.ptr 3 b3 2 :: (SV.int IntKind.i64 x.3 :: (SV.int IntKind.i64 (pExit s x.2 x.3).2 :: (rawR u 133 [] 89))))))))))))) 108))))))))) 3)))
                    [Ent.mk (Loc.sl ao cap) (SObj.roL 5 encStep bs (StepP.mk (0 : Int) (0 : Int) (0 : Int) (ByteArray.mk #[]) (ByteArray.mk #[]))),
                     pkA bt ptE (pExit s x.2 x.3).1, pkA br rtE (RT.mk (pExit s x.2 x.3).1 aor capr),
                     Ent.mk (Loc.blk b3) (SObj.cells [SV.int IntKind.i64 x.1, SV.int IntKind.i64 x.2, SV.int IntKind.i64 x.3, SV.str x.4, SV.str x.5] (68 : TypeId))])) ∧
     b3 = b3 ∧
      (b3 = b3 ∧
       b3 = b3 ∧
        true = true ∧
         bt = bt ∧
          ∃ (h : PT = PT),
           AdtIs (fun (s : PT) (b : Nat) ↦ packs (ptE s b)) ptE ∧
            pOk s ∧
             true = true ∧
              br = br ∧
               ∃ (h : RT = RT),
                AdtIs (fun (s : RT) (b : Nat) ↦ packs (rtE s b)) rtE ∧
                 pOk (RT.mk s aor capr).t ∧
                  K (frmR [J0] (bodyOf Try.f8) 34)
                   (Sy.mk (SV.raw (u 0) :: (SV.vec 0 ao (List.length bs) cap :: (rawR u 2 (SV.ptr 1 bt 0 :: (SV.ptr 2 br 0 :: (SV.int IntKind.i64 (↑i : Int) :: (SV.ptr 3 b3 0 :: (SV.int IntKind.i64 (0 : Int) :: (SV.int IntKind.i64 (0 : Int) :: (SV.int IntKind.i64 (pExit s x.2 x.3).2 :: (SV.int IntKind.i64 (pExit s x.2 x.3).2 :: (rawR u 13 (SV.ptr 1 bt 0 :: (SV.ptr 3 b3 1 :: (SV.int IntKind.i64 x.2 :: (SV.ptr 3 b3 2 :: (SV.int IntKind.i64 x.3 :: (SV.int IntKind.i64 (pExit s x.2 x.3).2 :: (SV.ptr 2 br 0 :: (SV.ptr 3 b3 1 :: (SV.int IntKind.i64 x.2 :: (SV.ptr 3 b3 2 :: (SV.int IntKind.i64 x.3 :: (SV.int IntKind.i64 (pExit s x.2 x.3).2 :: (rawR u 133 [] 89))))))))))))) 108))))))))) 3)))
                    [Ent.mk (Loc.sl ao cap) (SObj.roL 5 encStep bs (StepP.mk (0 : Int) (0 : Int) (0 : Int) (ByteArray.mk #[]) (ByteArray.mk #[]))),
                     pkA bt ptE (pExit s x.2 x.3).1, pkA br rtE (RT.mk (pExit s x.2 x.3).1 aor capr),
                     Ent.mk (Loc.blk b3) (SObj.cells [SV.int IntKind.i64 x.1, SV.int IntKind.i64 x.2, SV.int IntKind.i64 x.3, SV.str x.4, SV.str x.5] (68 : TypeId))])) ∧
       b3 = b3 ∧
        b3 = b3 ∧
         true = true ∧
          bt = bt ∧
           ∃ (h : PT = PT),
            AdtIs (fun (s : PT) (b : Nat) ↦ packs (ptE s b)) ptE ∧
             pOk s ∧
              true = true ∧
               br = br ∧
                ∃ (h : RT = RT),
                 AdtIs (fun (s : RT) (b : Nat) ↦ packs (rtE s b)) rtE ∧
                  pOk (RT.mk s aor capr).t ∧
                   K (frmR [J0] (bodyOf Try.f8) 34)
                    (Sy.mk (SV.raw (u 0) :: (SV.vec 0 ao (List.length bs) cap :: (rawR u 2 (SV.ptr 1 bt 0 :: (SV.ptr 2 br 0 :: (SV.int IntKind.i64 (↑i : Int) :: (SV.ptr 3 b3 0 :: (SV.int IntKind.i64 (0 : Int) :: (SV.int IntKind.i64 (0 : Int) :: (SV.int IntKind.i64 (pExit s x.2 x.3).2 :: (SV.int IntKind.i64 (pExit s x.2 x.3).2 :: (rawR u 13 (SV.ptr 1 bt 0 :: (SV.ptr 3 b3 1 :: (SV.int IntKind.i64 x.2 :: (SV.ptr 3 b3 2 :: (SV.int IntKind.i64 x.3 :: (SV.int IntKind.i64 (pExit s x.2 x.3).2 :: (SV.ptr 2 br 0 :: (SV.ptr 3 b3 1 :: (SV.int IntKind.i64 x.2 :: (SV.ptr 3 b3 2 :: (SV.int IntKind.i64 x.3 :: (SV.int IntKind.i64 (pExit s x.2 x.3).2 :: (rawR u 133 [] 89))))))))))))) 108))))))))) 3)))
                     [Ent.mk (Loc.sl ao cap) (SObj.roL 5 encStep bs (StepP.mk (0 : Int) (0 : Int) (0 : Int) (ByteArray.mk #[]) (ByteArray.mk #[]))),
                      pkA bt ptE (pExit s x.2 x.3).1, pkA br rtE (RT.mk (pExit s x.2 x.3).1 aor capr),
                      Ent.mk (Loc.blk b3) (SObj.cells [SV.int IntKind.i64 x.1, SV.int IntKind.i64 x.2, SV.int IntKind.i64 x.3, SV.str x.4, SV.str x.5] (68 : TypeId))])) ∧
   b3 = b3 ∧
    (b3 = b3 ∧
     (b3 = b3 ∧
      (true = true ∧
       bt = bt ∧
        ∃ (h : PT = PT),
         AdtIs (fun (s : PT) (b : Nat) ↦ packs (ptE s b)) ptE ∧
          pOk s ∧
           b3 = b3 ∧
            true = true ∧
             br = br ∧
              ∃ (h : RT = RT),
               AdtIs (fun (s : RT) (b : Nat) ↦ packs (rtE s b)) rtE ∧
                pOk (RT.mk s aor capr).t ∧
                 K (frmR [J0] (bodyOf Try.f8) 34)
                  (Sy.mk (SV.raw (u 0) :: (SV.vec 0 ao (List.length bs) cap :: (rawR u 2 (SV.ptr 1 bt 0 :: (SV.ptr 2 br 0 :: (SV.int IntKind.i64 (↑i : Int) :: (SV.ptr 3 b3 0 :: (SV.int IntKind.i64 (0 : Int) :: (SV.int IntKind.i64 (0 : Int) :: (SV.int IntKind.i64 (pExit s x.2 x.3).2 :: (SV.int IntKind.i64 (pExit s x.2 x.3).2 :: (rawR u 13 (SV.ptr 1 bt 0 :: (SV.ptr 3 b3 1 :: (SV.int IntKind.i64 x.2 :: (SV.ptr 3 b3 2 :: (SV.int IntKind.i64 x.3 :: (SV.int IntKind.i64 (pExit s x.2 x.3).2 :: (SV.ptr 2 br 0 :: (SV.ptr 3 b3 1 :: (SV.int IntKind.i64 x.2 :: (SV.ptr 3 b3 2 :: (SV.int IntKind.i64 x.3 :: (SV.int IntKind.i64 (pExit s x.2 x.3).2 :: (rawR u 133 [] 89))))))))))))) 108))))))))) 3)))
                   [Ent.mk (Loc.sl ao cap) (SObj.roL 5 encStep bs (StepP.mk (0 : Int) (0 : Int) (0 : Int) (ByteArray.mk #[]) (ByteArray.mk #[]))),
                    pkA bt ptE (pExit s x.2 x.3).1, pkA br rtE (RT.mk (pExit s x.2 x.3).1 aor capr),
                    Ent.mk (Loc.blk b3) (SObj.cells [SV.int IntKind.i64 x.1, SV.int IntKind.i64 x.2, SV.int IntKind.i64 x.3, SV.str x.4, SV.str x.5] (68 : TypeId))])) ∧
       b3 = b3 ∧
        true = true ∧
         bt = bt ∧
          ∃ (h : PT = PT),
           AdtIs (fun (s : PT) (b : Nat) ↦ packs (ptE s b)) ptE ∧
            pOk s ∧
             true = true ∧
              br = br ∧
               ∃ (h : RT = RT),
                AdtIs (fun (s : RT) (b : Nat) ↦ packs (rtE s b)) rtE ∧
                 pOk (RT.mk s aor capr).t ∧
                  K (frmR [J0] (bodyOf Try.f8) 34)
                   (Sy.mk (SV.raw (u 0) :: (SV.vec 0 ao (List.length bs) cap :: (rawR u 2 (SV.ptr 1 bt 0 :: (SV.ptr 2 br 0 :: (SV.int IntKind.i64 (↑i : Int) :: (SV.ptr 3 b3 0 :: (SV.int IntKind.i64 (0 : Int) :: (SV.int IntKind.i64 (0 : Int) :: (SV.int IntKind.i64 (pExit s x.2 x.3).2 :: (SV.int IntKind.i64 (pExit s x.2 x.3).2 :: (rawR u 13 (SV.ptr 1 bt 0 :: (SV.ptr 3 b3 1 :: (SV.int IntKind.i64 x.2 :: (SV.ptr 3 b3 2 :: (SV.int IntKind.i64 x.3 :: (SV.int IntKind.i64 (pExit s x.2 x.3).2 :: (SV.ptr 2 br 0 :: (SV.ptr 3 b3 1 :: (SV.int IntKind.i64 x.2 :: (SV.ptr 3 b3 2 :: (SV.int IntKind.i64 x.3 :: (SV.int IntKind.i64 (pExit s x.2 x.3).2 :: (rawR u 133 [] 89))))))))))))) 108))))))))) 3)))
                    [Ent.mk (Loc.sl ao cap) (SObj.roL 5 encStep bs (StepP.mk (0 : Int) (0 : Int) (0 : Int) (ByteArray.mk #[]) (ByteArray.mk #[]))),
                     pkA bt ptE (pExit s x.2 x.3).1, pkA br rtE (RT.mk (pExit s x.2 x.3).1 aor capr),
                     Ent.mk (Loc.blk b3) (SObj.cells [SV.int IntKind.i64 x.1, SV.int IntKind.i64 x.2, SV.int IntKind.i64 x.3, SV.str x.4, SV.str x.5] (68 : TypeId))])) ∧
      b3 = b3 ∧
       b3 = b3 ∧
        true = true ∧
         bt = bt ∧
          ∃ (h : PT = PT),
           AdtIs (fun (s : PT) (b : Nat) ↦ packs (ptE s b)) ptE ∧
            pOk s ∧
             true = true ∧
              br = br ∧
               ∃ (h : RT = RT),
                AdtIs (fun (s : RT) (b : Nat) ↦ packs (rtE s b)) rtE ∧
                 pOk (RT.mk s aor capr).t ∧
                  K (frmR [J0] (bodyOf Try.f8) 34)
                   (Sy.mk (SV.raw (u 0) :: (SV.vec 0 ao (List.length bs) cap :: (rawR u 2 (SV.ptr 1 bt 0 :: (SV.ptr 2 br 0 :: (SV.int IntKind.i64 (↑i : Int) :: (SV.ptr 3 b3 0 :: (SV.int IntKind.i64 (0 : Int) :: (SV.int IntKind.i64 (0 : Int) :: (SV.int IntKind.i64 (pExit s x.2 x.3).2 :: (SV.int IntKind.i64 (pExit s x.2 x.3).2 :: (rawR u 13 (SV.ptr 1 bt 0 :: (SV.ptr 3 b3 1 :: (SV.int IntKind.i64 x.2 :: (SV.ptr 3 b3 2 :: (SV.int IntKind.i64 x.3 :: (SV.int IntKind.i64 (pExit s x.2 x.3).2 :: (SV.ptr 2 br 0 :: (SV.ptr 3 b3 1 :: (SV.int IntKind.i64 x.2 :: (SV.ptr 3 b3 2 :: (SV.int IntKind.i64 x.3 :: (SV.int IntKind.i64 (pExit s x.2 x.3).2 :: (rawR u 133 [] 89))))))))))))) 108))))))))) 3)))
                    [Ent.mk (Loc.sl ao cap) (SObj.roL 5 encStep bs (StepP.mk (0 : Int) (0 : Int) (0 : Int) (ByteArray.mk #[]) (ByteArray.mk #[]))),
                     pkA bt ptE (pExit s x.2 x.3).1, pkA br rtE (RT.mk (pExit s x.2 x.3).1 aor capr),
                     Ent.mk (Loc.blk b3) (SObj.cells [SV.int IntKind.i64 x.1, SV.int IntKind.i64 x.2, SV.int IntKind.i64 x.3, SV.str x.4, SV.str x.5] (68 : TypeId))])) ∧
     (b3 = b3 ∧
      (b3 = b3 ∧
       (true = true ∧
        bt = bt ∧
         ∃ (h : PT = PT),
          AdtIs (fun (s : PT) (b : Nat) ↦ packs (ptE s b)) ptE ∧
           pOk s ∧
            b3 = b3 ∧
             true = true ∧
              br = br ∧
               ∃ (h : RT = RT),
                AdtIs (fun (s : RT) (b : Nat) ↦ packs (rtE s b)) rtE ∧
                 pOk (RT.mk s aor capr).t ∧
                  K (frmR [J0] (bodyOf Try.f8) 34)
                   (Sy.mk (SV.raw (u 0) :: (SV.vec 0 ao (List.length bs) cap :: (rawR u 2 (SV.ptr 1 bt 0 :: (SV.ptr 2 br 0 :: (SV.int IntKind.i64 (↑i : Int) :: (SV.ptr 3 b3 0 :: (SV.int IntKind.i64 (0 : Int) :: (SV.int IntKind.i64 (0 : Int) :: (SV.int IntKind.i64 (pExit s x.2 x.3).2 :: (SV.int IntKind.i64 (pExit s x.2 x.3).2 :: (rawR u 13 (SV.ptr 1 bt 0 :: (SV.ptr 3 b3 1 :: (SV.int IntKind.i64 x.2 :: (SV.ptr 3 b3 2 :: (SV.int IntKind.i64 x.3 :: (SV.int IntKind.i64 (pExit s x.2 x.3).2 :: (SV.ptr 2 br 0 :: (SV.ptr 3 b3 1 :: (SV.int IntKind.i64 x.2 :: (SV.ptr 3 b3 2 :: (SV.int IntKind.i64 x.3 :: (SV.int IntKind.i64 (pExit s x.2 x.3).2 :: (rawR u 133 [] 89))))))))))))) 108))))))))) 3)))
                    [Ent.mk (Loc.sl ao cap) (SObj.roL 5 encStep bs (StepP.mk (0 : Int) (0 : Int) (0 : Int) (ByteArray.mk #[]) (ByteArray.mk #[]))),
                     pkA bt ptE (pExit s x.2 x.3).1, pkA br rtE (RT.mk (pExit s x.2 x.3).1 aor capr),
                     Ent.mk (Loc.blk b3) (SObj.cells [SV.int IntKind.i64 x.1, SV.int IntKind.i64 x.2, SV.int IntKind.i64 x.3, SV.str x.4, SV.str x.5] (68 : TypeId))])) ∧
        b3 = b3 ∧
         true = true ∧
          bt = bt ∧
           ∃ (h : PT = PT),
            AdtIs (fun (s : PT) (b : Nat) ↦ packs (ptE s b)) ptE ∧
             pOk s ∧
              true = true ∧
               br = br ∧
                ∃ (h : RT = RT),
                 AdtIs (fun (s : RT) (b : Nat) ↦ packs (rtE s b)) rtE ∧
                  pOk (RT.mk s aor capr).t ∧
                   K (frmR [J0] (bodyOf Try.f8) 34)
                    (Sy.mk (SV.raw (u 0) :: (SV.vec 0 ao (List.length bs) cap :: (rawR u 2 (SV.ptr 1 bt 0 :: (SV.ptr 2 br 0 :: (SV.int IntKind.i64 (↑i : Int) :: (SV.ptr 3 b3 0 :: (SV.int IntKind.i64 (0 : Int) :: (SV.int IntKind.i64 (0 : Int) :: (SV.int IntKind.i64 (pExit s x.2 x.3).2 :: (SV.int IntKind.i64 (pExit s x.2 x.3).2 :: (rawR u 13 (SV.ptr 1 bt 0 :: (SV.ptr 3 b3 1 :: (SV.int IntKind.i64 x.2 :: (SV.ptr 3 b3 2 :: (SV.int IntKind.i64 x.3 :: (SV.int IntKind.i64 (pExit s x.2 x.3).2 :: (SV.ptr 2 br 0 :: (SV.ptr 3 b3 1 :: (SV.int IntKind.i64 x.2 :: (SV.ptr 3 b3 2 :: (SV.int IntKind.i64 x.3 :: (SV.int IntKind.i64 (pExit s x.2 x.3).2 :: (rawR u 133 [] 89))))))))))))) 108))))))))) 3)))
                     [Ent.mk (Loc.sl ao cap) (SObj.roL 5 encStep bs (StepP.mk (0 : Int) (0 : Int) (0 : Int) (ByteArray.mk #[]) (ByteArray.mk #[]))),
                      pkA bt ptE (pExit s x.2 x.3).1, pkA br rtE (RT.mk (pExit s x.2 x.3).1 aor capr),
                      Ent.mk (Loc.blk b3) (SObj.cells [SV.int IntKind.i64 x.1, SV.int IntKind.i64 x.2, SV.int IntKind.i64 x.3, SV.str x.4, SV.str x.5] (68 : TypeId))])) ∧
       b3 = b3 ∧
        b3 = b3 ∧
         true = true ∧
          bt = bt ∧
           ∃ (h : PT = PT),
            AdtIs (fun (s : PT) (b : Nat) ↦ packs (ptE s b)) ptE ∧
             pOk s ∧
              true = true ∧
               br = br ∧
                ∃ (h : RT = RT),
                 AdtIs (fun (s : RT) (b : Nat) ↦ packs (rtE s b)) rtE ∧
                  pOk (RT.mk s aor capr).t ∧
                   K (frmR [J0] (bodyOf Try.f8) 34)
                    (Sy.mk (SV.raw (u 0) :: (SV.vec 0 ao (List.length bs) cap :: (rawR u 2 (SV.ptr 1 bt 0 :: (SV.ptr 2 br 0 :: (SV.int IntKind.i64 (↑i : Int) :: (SV.ptr 3 b3 0 :: (SV.int IntKind.i64 (0 : Int) :: (SV.int IntKind.i64 (0 : Int) :: (SV.int IntKind.i64 (pExit s x.2 x.3).2 :: (SV.int IntKind.i64 (pExit s x.2 x.3).2 :: (rawR u 13 (SV.ptr 1 bt 0 :: (SV.ptr 3 b3 1 :: (SV.int IntKind.i64 x.2 :: (SV.ptr 3 b3 2 :: (SV.int IntKind.i64 x.3 :: (SV.int IntKind.i64 (pExit s x.2 x.3).2 :: (SV.ptr 2 br 0 :: (SV.ptr 3 b3 1 :: (SV.int IntKind.i64 x.2 :: (SV.ptr 3 b3 2 :: (SV.int IntKind.i64 x.3 :: (SV.int IntKind.i64 (pExit s x.2 x.3).2 :: (rawR u 133 [] 89))))))))))))) 108))))))))) 3)))
                     [Ent.mk (Loc.sl ao cap) (SObj.roL 5 encStep bs (StepP.mk (0 : Int) (0 : Int) (0 : Int) (ByteArray.mk #[]) (ByteArray.mk #[]))),
                      pkA bt ptE (pExit s x.2 x.3).1, pkA br rtE (RT.mk (pExit s x.2 x.3).1 aor capr),
                      Ent.mk (Loc.blk b3) (SObj.cells [SV.int IntKind.i64 x.1, SV.int IntKind.i64 x.2, SV.int IntKind.i64 x.3, SV.str x.4, SV.str x.5] (68 : TypeId))])) ∧
      b3 = b3 ∧
       (b3 = b3 ∧
        b3 = b3 ∧
         true = true ∧
          bt = bt ∧
           ∃ (h : PT = PT),
            AdtIs (fun (s : PT) (b : Nat) ↦ packs (ptE s b)) ptE ∧
             pOk s ∧
              true = true ∧
               br = br ∧
                ∃ (h : RT = RT),
                 AdtIs (fun (s : RT) (b : Nat) ↦ packs (rtE s b)) rtE ∧
                  pOk (RT.mk s aor capr).t ∧
                   K (frmR [J0] (bodyOf Try.f8) 34)
                    (Sy.mk (SV.raw (u 0) :: (SV.vec 0 ao (List.length bs) cap :: (rawR u 2 (SV.ptr 1 bt 0 :: (SV.ptr 2 br 0 :: (SV.int IntKind.i64 (↑i : Int) :: (SV.ptr 3 b3 0 :: (SV.int IntKind.i64 (0 : Int) :: (SV.int IntKind.i64 (0 : Int) :: (SV.int IntKind.i64 (pExit s x.2 x.3).2 :: (SV.int IntKind.i64 (pExit s x.2 x.3).2 :: (rawR u 13 (SV.ptr 1 bt 0 :: (SV.ptr 3 b3 1 :: (SV.int IntKind.i64 x.2 :: (SV.ptr 3 b3 2 :: (SV.int IntKind.i64 x.3 :: (SV.int IntKind.i64 (pExit s x.2 x.3).2 :: (SV.ptr 2 br 0 :: (SV.ptr 3 b3 1 :: (SV.int IntKind.i64 x.2 :: (SV.ptr 3 b3 2 :: (SV.int IntKind.i64 x.3 :: (SV.int IntKind.i64 (pExit s x.2 x.3).2 :: (rawR u 133 [] 89))))))))))))) 108))))))))) 3)))
                     [Ent.mk (Loc.sl ao cap) (SObj.roL 5 encStep bs (StepP.mk (0 : Int) (0 : Int) (0 : Int) (ByteArray.mk #[]) (ByteArray.mk #[]))),
                      pkA bt ptE (pExit s x.2 x.3).1, pkA br rtE (RT.mk (pExit s x.2 x.3).1 aor capr),
                      Ent.mk (Loc.blk b3) (SObj.cells [SV.int IntKind.i64 x.1, SV.int IntKind.i64 x.2, SV.int IntKind.i64 x.3, SV.str x.4, SV.str x.5] (68 : TypeId))])) ∧
        b3 = b3 ∧
         b3 = b3 ∧
          true = true ∧
           bt = bt ∧
            ∃ (h : PT = PT),
             AdtIs (fun (s : PT) (b : Nat) ↦ packs (ptE s b)) ptE ∧
              pOk s ∧
               true = true ∧
                br = br ∧
                 ∃ (h : RT = RT),
                  AdtIs (fun (s : RT) (b : Nat) ↦ packs (rtE s b)) rtE ∧
                   pOk (RT.mk s aor capr).t ∧
                    K (frmR [J0] (bodyOf Try.f8) 34)
                     (Sy.mk (SV.raw (u 0) :: (SV.vec 0 ao (List.length bs) cap :: (rawR u 2 (SV.ptr 1 bt 0 :: (SV.ptr 2 br 0 :: (SV.int IntKind.i64 (↑i : Int) :: (SV.ptr 3 b3 0 :: (SV.int IntKind.i64 (0 : Int) :: (SV.int IntKind.i64 (0 : Int) :: (SV.int IntKind.i64 (pExit s x.2 x.3).2 :: (SV.int IntKind.i64 (pExit s x.2 x.3).2 :: (rawR u 13 (SV.ptr 1 bt 0 :: (SV.ptr 3 b3 1 :: (SV.int IntKind.i64 x.2 :: (SV.ptr 3 b3 2 :: (SV.int IntKind.i64 x.3 :: (SV.int IntKind.i64 (pExit s x.2 x.3).2 :: (SV.ptr 2 br 0 :: (SV.ptr 3 b3 1 :: (SV.int IntKind.i64 x.2 :: (SV.ptr 3 b3 2 :: (SV.int IntKind.i64 x.3 :: (SV.int IntKind.i64 (pExit s x.2 x.3).2 :: (rawR u 133 [] 89))))))))))))) 108))))))))) 3)))
                      [Ent.mk (Loc.sl ao cap) (SObj.roL 5 encStep bs (StepP.mk (0 : Int) (0 : Int) (0 : Int) (ByteArray.mk #[]) (ByteArray.mk #[]))),
                       pkA bt ptE (pExit s x.2 x.3).1, pkA br rtE (RT.mk (pExit s x.2 x.3).1 aor capr),
                       Ent.mk (Loc.blk b3) (SObj.cells [SV.int IntKind.i64 x.1, SV.int IntKind.i64 x.2, SV.int IntKind.i64 x.3, SV.str x.4, SV.str x.5] (68 : TypeId))])) := by kernel_rfl


theorem pp_33 (K : List Frm → Sy → Prop) (N : List Ent → SV → Prop) (J0 : Act → World → Prop) (ao : Option Addr) (cap : Nat) (bs : List StepP) (bt br : Nat) (s : PT) (aor : Option Addr) (capr : Nat) (i : Nat) (x : StepP) (b3 : Nat) (u : Nat → Value) : (run Try.prog ppT false [34] K (retP Try.prog Try.f8.results.toList N) 900 (frmR [J0] (bodyOf Try.f8) 33) ⟨mkT u 222 0 [(1, .vec 0 ao bs.length cap), (5, .ptr 1 bt 0), (6, .ptr 2 br 0), (7, .int .i64 (i : Int)), (8, .ptr 3 b3 0), (9, .int .i64 0), (10, .int .i64 0), (11, .int .i64 0), (12, .int .i64 0)], [⟨.sl ao cap, .roL 5 encStep bs StepP.zero⟩, pkA bt ptE s, pkA br rtE ⟨s, aor, capr⟩, ⟨.blk b3, .cells (encStep x) 68⟩]⟩) = (
(b3 = b3 ∧
 (b3 = b3 ∧
  (true = true ∧
   bt = bt ∧
    ∃ (h : PT = PT),
     AdtIs (fun (s : PT) (b : Nat) ↦ packs (ptE s b)) ptE ∧
      pOk s ∧
       (b3 = b3 ∧
        b3 = b3 ∧
         true = true ∧
          br = br ∧
           ∃ (h : RT = RT),
            AdtIs (fun (s : RT) (b : Nat) ↦ packs (rtE s b)) rtE ∧
             pOk (RT.mk s aor capr).t ∧
              K (frmR [J0] (bodyOf Try.f8) 34)
               (Sy.mk (SV.raw (u 0) :: (SV.vec 0 ao (List.length bs) cap :: (rawR u 2 (SV.ptr 1 bt 0 :: (SV.ptr 2 br 0 :: (SV.int IntKind.i64 (↑i : Int) :: (SV.ptr 3 b3 0 :: (SV.int IntKind.i64 (0 : Int) :: (SV.int IntKind.i64 (0 : Int) :: (SV.int IntKind.i64 (pKill s x.2 x.3).2 :: (SV.int IntKind.i64 (pKill s x.2 x.3).2 :: (rawR u 13 (SV.ptr 1 bt 0 :: (SV.ptr 3 b3 1 :: (SV.int IntKind.i64 x.2 :: (SV.ptr 3 b3 2 :: (SV.int IntKind.i64 x.3 :: (SV.int IntKind.i64 (pKill s x.2 x.3).2 :: (SV.ptr 2 br 0 :: (SV.ptr 3 b3 1 :: (SV.int IntKind.i64 x.2 :: (SV.ptr 3 b3 2 :: (SV.int IntKind.i64 x.3 :: (SV.int IntKind.i64 (pKill s x.2 x.3).2 :: (rawR u 147 [] 75))))))))))))) 122))))))))) 3)))
                [Ent.mk (Loc.sl ao cap) (SObj.roL 5 encStep bs (StepP.mk (0 : Int) (0 : Int) (0 : Int) (ByteArray.mk #[]) (ByteArray.mk #[]))),
                 pkA bt ptE (pKill s x.2 x.3).1, pkA br rtE (RT.mk (pKill s x.2 x.3).1 aor capr),
                 Ent.mk (Loc.blk b3) (SObj.cells [SV.int IntKind.i64 x.1, SV.int IntKind.i64 x.2, SV.int IntKind.i64 x.3, SV.str x.4, SV.str x.5] (68 : TypeId))])) ∧
        b3 = b3 ∧
         b3 = b3 ∧
          true = true ∧
           br = br ∧
            ∃ (h : RT = RT),
             AdtIs (fun (s : RT) (b : Nat) ↦ packs (rtE s b)) rtE ∧
              pOk (RT.mk s aor capr).t ∧
               K (frmR [J0] (bodyOf Try.f8) 34)
                (Sy.mk (SV.raw (u 0) :: (SV.vec 0 ao (List.length bs) cap :: (rawR u 2 (SV.ptr 1 bt 0 :: (SV.ptr 2 br 0 :: (SV.int IntKind.i64 (↑i : Int) :: (SV.ptr 3 b3 0 :: (SV.int IntKind.i64 (0 : Int) :: (SV.int IntKind.i64 (0 : Int) :: (SV.int IntKind.i64 (pKill s x.2 x.3).2 :: (SV.int IntKind.i64 (pKill s x.2 x.3).2 :: (rawR u 13 (SV.ptr 1 bt 0 :: (SV.ptr 3 b3 1 :: (SV.int IntKind.i64 x.2 :: (SV.ptr 3 b3 2 :: (SV.int IntKind.i64 x.3 :: (SV.int IntKind.i64 (pKill s x.2 x.3).2 :: (SV.ptr 2 br 0 :: (SV.ptr 3 b3 1 :: (SV.int IntKind.i64 x.2 :: (SV.ptr 3 b3 2 :: (SV.int IntKind.i64 x.3 :: (SV.int IntKind.i64 (pKill s x.2 x.3).2 :: (rawR u 147 [] 75))))))))))))) 122))))))))) 3)))
                 [Ent.mk (Loc.sl ao cap) (SObj.roL 5 encStep bs (StepP.mk (0 : Int) (0 : Int) (0 : Int) (ByteArray.mk #[]) (ByteArray.mk #[]))),
                  pkA bt ptE (pKill s x.2 x.3).1, pkA br rtE (RT.mk (pKill s x.2 x.3).1 aor capr),
                  Ent.mk (Loc.blk b3) (SObj.cells [SV.int IntKind.i64 x.1, SV.int IntKind.i64 x.2, SV.int IntKind.i64 x.3, SV.str x.4, SV.str x.5] (68 : TypeId))])) ∧
   (b3 = b3 ∧
    (true = true ∧
     bt = bt ∧
      ∃ (h : PT = PT),
       AdtIs (fun (s : PT) (b : Nat) ↦ packs (ptE s b)) ptE ∧
        pOk s ∧
         b3 = b3 ∧
          true = true ∧
           br = br ∧
            ∃ (h : RT = RT),
             AdtIs (fun (s : RT) (b : Nat) ↦ packs (rtE s b)) rtE ∧
              pOk (RT.mk s aor capr).t ∧
               K (frmR [J0] (bodyOf Try.f8) 34)
                (Sy.mk (SV.raw (u 0) :: (SV.vec 0 ao (List.length bs) cap :: (rawR u 2 (SV.ptr 1 bt 0 :: (SV.ptr 2 br 0 :: (SV.int IntKind.i64 (↑i : Int) :: (SV.ptr 3 b3 0 :: (SV.int IntKind.i64 (0 : Int) :: (SV.int IntKind.i64 (0 : Int) :: (SV.int IntKind.i64 (pKill s x.2 x.3).2 :: (SV.int IntKind.i64 (pKill s x.2 x.3).2 :: (rawR u 13 (SV.ptr 1 bt 0 :: (SV.ptr 3 b3 1 :: (SV.int IntKind.i64 x.2 :: (SV.ptr 3 b3 2 :: (SV.int IntKind.i64 x.3 :: (SV.int IntKind.i64 (pKill s x.2 x.3).2 :: (SV.ptr 2 br 0 :: (SV.ptr 3 b3 1 :: (SV.int IntKind.i64 x.2 :: (SV.ptr 3 b3 2 :: (SV.int IntKind.i64 x.3 :: (SV.int IntKind.i64 (pKill s x.2 x.3).2 :: (rawR u 147 [] 75))))))))))))) 122))))))))) 3)))
                 [Ent.mk (Loc.sl ao cap) (SObj.roL 5 encStep bs (StepP.mk (0 : Int) (0 : Int) (0 : Int) (ByteArray.mk #[]) (ByteArray.mk #[]))),
                  pkA bt ptE (pKill s x.2 x.3).1, pkA br rtE (RT.mk (pKill s x.2 x.3).1 aor capr),
                  Ent.mk (Loc.blk b3) (SObj.cells [SV.int IntKind.i64 x.1, SV.int IntKind.i64 x.2, SV.int IntKind.i64 x.3, SV.str x.4, SV.str x.5] (68 : TypeId))])) ∧
     b3 = b3 ∧
      true = true ∧
       bt = bt ∧
        ∃ (h : PT = PT),
         AdtIs (fun (s : PT) (b : Nat) ↦ packs (ptE s b)) ptE ∧
          pOk s ∧
           true = true ∧
            br = br ∧
             ∃ (h : RT = RT),
              AdtIs (fun (s : RT) (b : Nat) ↦ packs (rtE s b)) rtE ∧
               pOk (RT.mk s aor capr).t ∧
                K (frmR [J0] (bodyOf Try.f8) 34)
                 (Sy.mk (SV.raw (u 0) :: (SV.vec 0 ao (List.length bs) cap :: (rawR u 2 (SV.ptr 1 bt 0 :: (SV.ptr 2 br 0 :: (SV.int IntKind.i64 (↑i : Int) :: (SV.ptr 3 b3 0 :: (SV.int IntKind.i64 (0 : Int) :: (SV.int IntKind.i64 (0 : Int) :: (SV.int IntKind.i64 (pKill s x.2 x.3).2 :: (SV.int IntKind.i64 (pKill s x.2 x.3).2 :: (rawR u 13 (SV.ptr 1 bt 0 :: (SV.ptr 3 b3 1 :: (SV.int IntKind.i64 x.2 :: (SV.ptr 3 b3 2 :: (SV.int IntKind.i64 x.3 :: (SV.int IntKind.i64 (pKill s x.2 x.3).2 :: (SV.ptr 2 br 0 :: (SV.ptr 3 b3 1 :: (SV.int IntKind.i64 x.2 :: (SV.ptr 3 b3 2 :: (SV.int IntKind.i64 x.3 :: (SV.int IntKind.i64 (pKill s x.2 x.3).2 :: (rawR u 147 [] 75))))))))))))) 122))))))))) 3)))
                  [Ent.mk (Loc.sl ao cap) (SObj.roL 5 encStep bs (StepP.mk (0 : Int) (0 : Int) (0 : Int) (ByteArray.mk #[]) (ByteArray.mk #[]))),
                   pkA bt ptE (pKill s x.2 x.3).1, pkA br rtE (RT.mk (pKill s x.2 x.3).1 aor capr),
                   Ent.mk (Loc.blk b3) (SObj.cells [SV.int IntKind.i64 x.1, SV.int IntKind.i64 x.2, SV.int IntKind.i64 x.3, SV.str x.4, SV.str x.5] (68 : TypeId))])) ∧
    b3 = b3 ∧
     (true = true ∧
      bt = bt ∧
       ∃ (h : PT = PT),
        AdtIs (fun (s : PT) (b : Nat) ↦ packs (ptE s b)) ptE ∧
         pOk s ∧
          b3 = b3 ∧
           true = true ∧
            br = br ∧
             ∃ (h : RT = RT),
              AdtIs (fun (s : RT) (b : Nat) ↦ packs (rtE s b)) rtE ∧
               pOk (RT.mk s aor capr).t ∧
                K (frmR [J0] (bodyOf Try.f8) 34)
                 (Sy.mk (SV.raw (u 0) :: (SV.vec 0 ao (List.length bs) cap :: (rawR u 2 (SV.ptr 1 bt 0 :: (SV.ptr 2 br 0 :: (SV.int IntKind.i64 (↑i : Int) :: (SV.ptr 3 b3 0 :: (SV.int IntKind.i64 (0 : Int) :: (SV.int IntKind.i64 (0 : Int) :: (SV.int IntKind.i64 (pKill s x.2 x.3).2 :: (SV.int IntKind.i64 (pKill s x.2 x.3).2 :: (rawR u 13 (SV.ptr 1 bt 0 :: (SV.ptr 3 b3 1 :: (SV.int IntKind.i64 x.2 :: (SV.ptr 3 b3 2 :: (SV.int IntKind.i64 x.3 :: (SV.int IntKind.i64 (pKill s x.2 x.3).2 :: (SV.ptr 2 br 0 :: (SV.ptr 3 b3 1 :: (SV.int IntKind.i64 x.2 :: (SV.ptr 3 b3 2 :: (SV.int IntKind.i64 x.3 :: (SV.int IntKind.i64 (pKill s x.2 x.3).2 :: (rawR u 147 [] 75))))))))))))) 122))))))))) 3)))
                  [Ent.mk (Loc.sl ao cap) (SObj.roL 5 encStep bs (StepP.mk (0 : Int) (0 : Int) (0 : Int) (ByteArray.mk #[]) (ByteArray.mk #[]))),
                   pkA bt ptE (pKill s x.2 x.3).1, pkA br rtE (RT.mk (pKill s x.2 x.3).1 aor capr),
                   Ent.mk (Loc.blk b3) (SObj.cells [SV.int IntKind.i64 x.1, SV.int IntKind.i64 x.2, SV.int IntKind.i64 x.3, SV.str x.4, SV.str x.5] (68 : TypeId))])) ∧
      b3 = b3 ∧
       true = true ∧
        bt = bt ∧
         ∃ (h : PT = PT),
          AdtIs (fun (s : PT) (b : Nat) ↦ packs (ptE s b)) ptE ∧
           pOk s ∧
            true = true ∧
             br = br ∧
              ∃ (h : RT = RT),
               AdtIs (fun (s : RT) (b : Nat) ↦ packs (rtE s b)) rtE ∧
                pOk (RT.mk s aor capr).t ∧
                 K (frmR [J0] (bodyOf Try.f8) 34)
                  (Sy.mk (SV.raw (u 0) :: (SV.vec 0 ao (List.length bs) cap :: (rawR u 2 (SV.ptr 1 bt 0 :: (SV.ptr 2 br 0 :: (SV.int IntKind.i64 (↑i : Int) :: (SV.ptr 3 b3 0 :: (SV.int IntKind.i64 (0 : Int) :: (SV.int IntKind.i64 (0 : Int) :: (SV.int IntKind.i64 (pKill s x.2 x.3).2 :: (SV.int IntKind.i64 (pKill s x.2 x.3).2 :: (rawR u 13 (SV.ptr 1 bt 0 :: (SV.ptr 3 b3 1 :: (SV.int IntKind.i64 x.2 :: (SV.ptr 3 b3 2 :: (SV.int IntKind.i64 x.3 :: (SV.int IntKind.i64 (pKill s x.2 x.3).2 :: (SV.ptr 2 br 0 :: (SV.ptr 3 b3 1 :: (SV.int IntKind.i64 x.2 :: (SV.ptr 3 b3 2 :: (SV.int IntKind.i64 x.3 :: (SV.int IntKind.i64 (pKill s x.2 x.3).2 :: (rawR u 147 [] 75))))))))))))) 122))))))))) 3)))
                   [Ent.mk (Loc.sl ao cap) (SObj.roL 5 encStep bs (StepP.mk (0 : Int) (0 : Int) (0 : Int) (ByteArray.mk #[]) (ByteArray.mk #[]))),
                    pkA bt ptE (pKill s x.2 x.3).1, pkA br rtE (RT.mk (pKill s x.2 x.3).1 aor capr),
                    Ent.mk (Loc.blk b3) (SObj.cells [SV.int IntKind.i64 x.1, SV.int IntKind.i64 x.2, SV.int IntKind.i64 x.3, SV.str x.4, SV.str x.5] (68 : TypeId))])) ∧
  (b3 = b3 ∧
   (b3 = b3 ∧
    (true = true ∧
     bt = bt ∧
      ∃ (h : PT = PT),
       AdtIs (fun (s : PT) (b : Nat) ↦ packs (ptE s b)) ptE ∧
        pOk s ∧
         b3 = b3 ∧
          true = true ∧
           br = br ∧
            ∃ (h : RT = RT),
             AdtIs (fun (s : RT) (b : Nat) ↦ packs (rtE s b)) rtE ∧
              pOk (RT.mk s aor capr).t ∧
               K (frmR [J0] (bodyOf Try.f8) 34)
                (Sy.mk (SV.raw (u 0) :: (SV.vec 0 ao (List.length bs) cap :: (rawR u 2 (SV.ptr 1 bt 0 :: (SV.ptr 2 br 0 :: (SV.int IntKind.i64 (↑i : Int) :: (SV.ptr 3 b3 0 :: (SV.int IntKind.i64 (0 : Int) :: (SV.int IntKind.i64 (0 : Int) :: (SV.int IntKind.i64 (pKill s x.2 x.3).2 :: (SV.int IntKind.i64 (pKill s x.2 x.3).2 :: (rawR u 13 (SV.ptr 1 bt 0 :: (SV.ptr 3 b3 1 :: (SV.int IntKind.i64 x.2 :: (SV.ptr 3 b3 2 :: (SV.int IntKind.i64 x.3 :: (SV.int IntKind.i64 (pKill s x.2 x.3).2 :: (SV.ptr 2 br 0 :: (SV.ptr 3 b3 1 :: (SV.int IntKind.i64 x.2 :: (SV.ptr 3 b3 2 :: (SV.int IntKind.i64 x.3 :: (SV.int IntKind.i64 (pKill s x.2 x.3).2 :: (rawR u 147 [] 75))))))))))))) 122))))))))) 3)))
                 [Ent.mk (Loc.sl ao cap) (SObj.roL 5 encStep bs (StepP.mk (0 : Int) (0 : Int) (0 : Int) (ByteArray.mk #[]) (ByteArray.mk #[]))),
                  pkA bt ptE (pKill s x.2 x.3).1, pkA br rtE (RT.mk (pKill s x.2 x.3).1 aor capr),
                  Ent.mk (Loc.blk b3) (SObj.cells [SV.int IntKind.i64 x.1, SV.int IntKind.i64 x.2, SV.int IntKind.i64 x.3, SV.str x.4, SV.str x.5] (68 : TypeId))])) ∧
     b3 = b3 ∧
      true = true ∧
       bt = bt ∧
        ∃ (h : PT = PT),
         AdtIs (fun (s : PT) (b : Nat) ↦ packs (ptE s b)) ptE ∧
          pOk s ∧
           true = true ∧
            br = br ∧
             ∃ (h : RT = RT),
              AdtIs (fun (s : RT) (b : Nat) ↦ packs (rtE s b)) rtE ∧
               pOk (RT.mk s aor capr).t ∧
                K (frmR [J0] (bodyOf Try.f8) 34)
                 (Sy.mk (SV.raw (u 0) :: (SV.vec 0 ao (List.length bs) cap :: (rawR u 2 (SV.ptr 1 bt 0 :: (SV.ptr 2 br 0 :: (SV.int IntKind.i64 (↑i : Int) :: (SV.ptr 3 b3 0 :: (SV.int IntKind.i64 (0 : Int) :: (SV.int IntKind.i64 (0 : Int) :: (SV.int IntKind.i64 (pKill s x.2 x.3).2 :: (SV.int IntKind.i64 (pKill s x.2 x.3).2 :: (rawR u 13 (SV.ptr 1 bt 0 :: (SV.ptr 3 b3 1 :: (SV.int IntKind.i64 x.2 :: (SV.ptr 3 b3 2 :: (SV.int IntKind.i64 x.3 :: (SV.int IntKind.i64 (pKill s x.2 x.3).2 :: (SV.ptr 2 br 0 :: (SV.ptr 3 b3 1 :: (SV.int IntKind.i64 x.2 :: (SV.ptr 3 b3 2 :: (SV.int IntKind.i64 x.3 :: (SV.int IntKind.i64 (pKill s x.2 x.3).2 :: (rawR u 147 [] 75))))))))))))) 122))))))))) 3)))
                  [Ent.mk (Loc.sl ao cap) (SObj.roL 5 encStep bs (StepP.mk (0 : Int) (0 : Int) (0 : Int) (ByteArray.mk #[]) (ByteArray.mk #[]))),
                   pkA bt ptE (pKill s x.2 x.3).1, pkA br rtE (RT.mk (pKill s x.2 x.3).1 aor capr),
                   Ent.mk (Loc.blk b3) (SObj.cells [SV.int IntKind.i64 x.1, SV.int IntKind.i64 x.2, SV.int IntKind.i64 x.3, SV.str x.4, SV.str x.5] (68 : TypeId))])) ∧
    b3 = b3 ∧
     b3 = b3 ∧
      true = true ∧
       bt = bt ∧
        ∃ (h : PT = PT),
         AdtIs (fun (s : PT) (b : Nat) ↦ packs (ptE s b)) ptE ∧
          pOk s ∧
           true = true ∧
            br = br ∧
             ∃ (h : RT = RT),
              AdtIs (fun (s : RT) (b : Nat) ↦ packs (rtE s b)) rtE ∧
               pOk (RT.mk s aor capr).t ∧
                K (frmR [J0] (bodyOf Try.f8) 34)
                 (Sy.mk (SV.raw (u 0) :: (SV.vec 0 ao (List.length bs) cap :: (rawR u 2 (SV.ptr 1 bt 0 :: (SV.ptr 2 br 0 :: (SV.int IntKind.i64 (↑i : Int) :: (SV.ptr 3 b3 0 :: (SV.int IntKind.i64 (0 : Int) :: (SV.int IntKind.i64 (0 : Int) :: (SV.int IntKind.i64 (pKill s x.2 x.3).2 :: (SV.int IntKind.i64 (pKill s x.2 x.3).2 :: (rawR u 13 (SV.ptr 1 bt 0 :: (SV.ptr 3 b3 1 :: (SV.int IntKind.i64 x.2 :: (SV.ptr 3 b3 2 :: (SV.int IntKind.i64 x.3 :: (SV.int IntKind.i64 (pKill s x.2 x.3).2 :: (SV.ptr 2 br 0 :: (SV.ptr 3 b3 1 :: (SV.int IntKind.i64 x.2 :: (SV.ptr 3 b3 2 :: (SV.int IntKind.i64 x.3 :: (SV.int IntKind.i64 (pKill s x.2 x.3).2 :: (rawR u 147 [] 75))))))))))))) 122))))))))) 3)))
                  [Ent.mk (Loc.sl ao cap) (SObj.roL 5 encStep bs (StepP.mk (0 : Int) (0 : Int) (0 : Int) (ByteArray.mk #[]) (ByteArray.mk #[]))),
                   pkA bt ptE (pKill s x.2 x.3).1, pkA br rtE (RT.mk (pKill s x.2 x.3).1 aor capr),
                   Ent.mk (Loc.blk b3) (SObj.cells [SV.int IntKind.i64 x.1, SV.int IntKind.i64 x.2, SV.int IntKind.i64 x.3, SV.str x.4, SV.str x.5] (68 : TypeId))])) ∧
   b3 = b3 ∧
    (b3 = b3 ∧
     (true = true ∧
      bt = bt ∧
       ∃ (h : PT = PT),
        AdtIs (fun (s : PT) (b : Nat) ↦ packs (ptE s b)) ptE ∧
         pOk s ∧
          b3 = b3 ∧
           true = true ∧
            br = br ∧
             ∃ (h : RT = RT),
              AdtIs (fun (s : RT) (b : Nat) ↦ packs (rtE s b)) rtE ∧
               pOk (RT.mk s aor capr).t ∧
                K (frmR [J0] (bodyOf Try.f8) 34)
                 (Sy.mk (SV.raw (u 0) :: (SV.vec 0 ao (List.length bs) cap :: (rawR u 2 (SV.ptr 1 bt 0 :: (SV.ptr 2 br 0 :: (SV.int IntKind.i64 (↑i : Int) :: (SV.ptr 3 b3 0 :: (SV.int IntKind.i64 (0 : Int) :: (SV.int IntKind.i64 (0 : Int) :: (SV.int IntKind.i64 (pKill s x.2 x.3).2 :: (SV.int IntKind.i64 (pKill s x.2 x.3).2 :: (rawR u 13 (SV.ptr 1 bt 0 :: (SV.ptr 3 b3 1 :: (SV.int IntKind.i64 x.2 :: (SV.ptr 3 b3 2 :: (SV.int IntKind.i64 x.3 :: (SV.int IntKind.i64 (pKill s x.2 x.3).2 :: (SV.ptr 2 br 0 :: (SV.ptr 3 b3 1 :: (SV.int IntKind.i64 x.2 :: (SV.ptr 3 b3 2 :: (SV.int IntKind.i64 x.3 :: (SV.int IntKind.i64 (pKill s x.2 x.3).2 :: (rawR u 147 [] 75))))))))))))) 122))))))))) 3)))
                  [Ent.mk (Loc.sl ao cap) (SObj.roL 5 encStep bs (StepP.mk (0 : Int) (0 : Int) (0 : Int) (ByteArray.mk #[]) (ByteArray.mk #[]))),
                   pkA bt ptE (pKill s x.2 x.3).1, pkA br rtE (RT.mk (pKill s x.2 x.3).1 aor capr),
                   Ent.mk (Loc.blk b3) (SObj.cells [SV.int IntKind.i64 x.1, SV.int IntKind.i64 x.2, SV.int IntKind.i64 x.3, SV.str x.4, SV.str x.5] (68 : TypeId))])) ∧
      b3 = b3 ∧
       true = true ∧
        bt = bt ∧
         ∃ (h : PT = PT),
          AdtIs (fun (s : PT) (b : Nat) ↦ packs (ptE s b)) ptE ∧
           pOk s ∧
            true = true ∧
             br = br ∧
              ∃ (h : RT = RT),
               AdtIs (fun (s : RT) (b : Nat) ↦ packs (rtE s b)) rtE ∧
                pOk (RT.mk s aor capr).t ∧
                 K (frmR [J0] (bodyOf Try.f8) 34)
                  (Sy.mk (SV.raw (u 0) :: (SV.vec 0 ao (List.length bs) cap :: (rawR u 2 (SV.ptr 1 bt 0 :: (SV.ptr 2 br 0 :: (SV.int IntKind.i64 (↑i : Int) :: (SV.ptr 3 b3 0 :: (SV.int IntKind.i64 (0 : Int) :: (SV.int IntKind.i64 (0 : Int) :: (SV.int IntKind.i64 (pKill s x.2 x.3).2 :: (SV.int IntKind.i64 (pKill s x.2 x.3).2 :: (rawR u 13 (SV.ptr 1 bt 0 :: (SV.ptr 3 b3 1 :: (SV.int IntKind.i64 x.2 :: (SV.ptr 3 b3 2 :: (SV.int IntKind.i64 x.3 :: (SV.int IntKind.i64 (pKill s x.2 x.3).2 :: (SV.ptr 2 br 0 :: (SV.ptr 3 b3 1 :: (SV.int IntKind.i64 x.2 :: (SV.ptr 3 b3 2 :: (SV.int IntKind.i64 x.3 :: (SV.int IntKind.i64 (pKill s x.2 x.3).2 :: (rawR u 147 [] 75))))))))))))) 122))))))))) 3)))
                   [Ent.mk (Loc.sl ao cap) (SObj.roL 5 encStep bs (StepP.mk (0 : Int) (0 : Int) (0 : Int) (ByteArray.mk #[]) (ByteArray.mk #[]))),
                    pkA bt ptE (pKill s x.2 x.3).1, pkA br rtE (RT.mk (pKill s x.2 x.3).1 aor capr),
                    Ent.mk (Loc.blk b3) (SObj.cells [SV.int IntKind.i64 x.1, SV.int IntKind.i64 x.2, SV.int IntKind.i64 x.3, SV.str x.4, SV.str x.5] (68 : TypeId))])) ∧
     b3 = b3 ∧
      b3 = b3 ∧
       true = true ∧
        bt = bt ∧
         ∃ (h : PT = PT),
          AdtIs (fun (s : PT) (b : Nat) ↦ packs (ptE s b)) ptE ∧
           pOk s ∧
            true = true ∧
             br = br ∧
              ∃ (h : RT = RT),
               AdtIs (fun (s : RT) (b : Nat) ↦ packs (rtE s b)) rtE ∧
                pOk (RT.mk s aor capr).t ∧
                 K (frmR [J0] (bodyOf Try.f8) 34)
                  (Sy.mk (SV.raw (u 0) :: (SV.vec 0 ao (List.length bs) cap :: (rawR u 2 (SV.ptr 1 bt 0 :: (SV.ptr 2 br 0 :: (SV.int IntKind.i64 (↑i : Int) :: (SV.ptr 3 b3 0 :: (SV.int IntKind.i64 (0 : Int) :: (SV.int IntKind.i64 (0 : Int) :: (SV.int IntKind.i64 (pKill s x.2 x.3).2 :: (SV.int IntKind.i64 (pKill s x.2 x.3).2 :: (rawR u 13 (SV.ptr 1 bt 0 :: (SV.ptr 3 b3 1 :: (SV.int IntKind.i64 x.2 :: (SV.ptr 3 b3 2 :: (SV.int IntKind.i64 x.3 :: (SV.int IntKind.i64 (pKill s x.2 x.3).2 :: (SV.ptr 2 br 0 :: (SV.ptr 3 b3 1 :: (SV.int IntKind.i64 x.2 :: (SV.ptr 3 b3 2 :: (SV.int IntKind.i64 x.3 :: (SV.int IntKind.i64 (pKill s x.2 x.3).2 :: (rawR u 147 [] 75))))))))))))) 122))))))))) 3)))
                   [Ent.mk (Loc.sl ao cap) (SObj.roL 5 encStep bs (StepP.mk (0 : Int) (0 : Int) (0 : Int) (ByteArray.mk #[]) (ByteArray.mk #[]))),
                    pkA bt ptE (pKill s x.2 x.3).1, pkA br rtE (RT.mk (pKill s x.2 x.3).1 aor capr),
                    Ent.mk (Loc.blk b3) (SObj.cells [SV.int IntKind.i64 x.1, SV.int IntKind.i64 x.2, SV.int IntKind.i64 x.3, SV.str x.4, SV.str x.5] (68 : TypeId))])) ∧
 (b3 = b3 ∧
  (b3 = b3 ∧
   (true = true ∧
    bt = bt ∧
     ∃ (h : PT = PT),
      AdtIs (fun (s : PT) (b : Nat) ↦ packs (ptE s b)) ptE ∧
       pOk s ∧
        (b3 = b3 ∧
         b3 = b3 ∧
          true = true ∧
           br = br ∧
            ∃ (h : RT = RT),
             AdtIs (fun (s : RT) (b : Nat) ↦ packs (rtE s b)) rtE ∧
              pOk (RT.mk s aor capr).t ∧
               K (frmR [J0] (bodyOf Try.f8) 34)
                (Sy.mk (SV.raw (u 0) :: (SV.vec 0 ao (List.length bs) cap :: (rawR u 2 (SV.ptr 1 bt 0 :: (SV.ptr 2 br 0 :: (SV.int IntKind.i64 (↑i : Int) :: (SV.ptr 3 b3 0 :: (SV.int IntKind.i64 (0 : Int) :: (SV.int IntKind.i64 (0 : Int) :: (SV.int IntKind.i64 (pKill s x.2 x.3).2 :: (SV.int IntKind.i64 (pKill s x.2 x.3).2 :: (rawR u 13 (SV.ptr 1 bt 0 :: (SV.ptr 3 b3 1 :: (SV.int IntKind.i64 x.2 :: (SV.ptr 3 b3 2 :: (SV.int IntKind.i64 x.3 :: (SV.int IntKind.i64 (pKill s x.2 x.3).2 :: (SV.ptr 2 br 0 :: (SV.ptr 3 b3 1 :: (SV.int IntKind.i64 x.2 :: (SV.ptr 3 b3 2 :: (SV.int IntKind.i64 x.3 :: (SV.int IntKind.i64 (pKill s x.2 x.3).2 :: (rawR u 147 [] 75))))))))))))) 122))))))))) 3)))
                 [Ent.mk (Loc.sl ao cap) (SObj.roL 5 encStep bs (StepP.mk (0 : Int) (0 : Int) (0 : Int) (ByteArray.mk #[]) (ByteArray.mk #[]))),
                  pkA bt ptE (pKill s x.2 x.3).1, pkA br rtE (RT.mk (pKill s x.2 x.3).1 aor capr),
                  Ent.mk (Loc.blk b3) (SObj.cells [SV.int IntKind.i64 x.1, SV.int IntKind.i64 x.2, SV.int IntKind.i64 x.3, SV.str x.4, SV.str x.5] (68 : TypeId))])) ∧
         b3 = b3 ∧
          b3 = b3 ∧
           true = true ∧
            br = br ∧
             ∃ (h : RT = RT),
              AdtIs (fun (s : RT) (b : Nat) ↦ packs (rtE s b)) rtE ∧
               pOk (RT.mk s aor capr).t ∧
                K (frmR [J0] (bodyOf Try.f8) 34)
                 (Sy.mk (SV.raw (u 0) :: (SV.vec 0 ao (List.length bs) cap :: (rawR u 2 (SV.ptr 1 bt 0 :: (SV.ptr 2 br 0 :: (SV.int IntKind.i64 (↑i : Int) :: (SV.ptr 3 b3 0 :: (SV.int IntKind.i64 (0 : Int) :: (SV.int IntKind.i64 (0 : Int) :: (SV.int IntKind.i64 (pKill s x.2 x.3).2 :: (SV.int IntKind.i64 (pKill s x.2 x.3).2 :: (rawR u 13 (SV.ptr 1 bt 0 :: (SV.ptr 3 b3 1 :: (SV.int IntKind.i64 x.2 :: (SV.ptr 3 b3 2 :: (SV.int IntKind.i64 x.3 :: (SV.int IntKind.i64 (pKill s x.2 x.3).2 :: (SV.ptr 2 br 0 :: (SV.ptr 3 b3 1 :: (SV.int IntKind.i64 x.2 :: (SV.ptr 3 b3 2 :: (SV.int IntKind.i64 x.3 :: (SV.int IntKind.i64 (pKill s x.2 x.3).2 :: (rawR u 147 [] 75))))))))))))) 122))))))))) 3)))
                  [Ent.mk (Loc.sl ao cap) (SObj.roL 5 encStep bs (StepP.mk (0 : Int) (0 : Int) (0 : Int) (ByteArray.mk #[]) (ByteArray.mk #[]))),
                   pkA bt ptE (pKill s x.2 x.3).1, pkA br rtE (RT.mk (pKill s x.2 x.3).1 aor capr),
                   Ent.mk (Loc.blk b3) (SObj.cells [SV.int IntKind.i64 x.1, SV.int IntKind.i64 x.2, SV.int IntKind.i64 x.3, SV.str x.4, SV.str x.5] (68 : TypeId))])) ∧
    (b3 = b3 ∧
     (true = true ∧
      bt = bt ∧
       ∃ (h : PT = PT),
        AdtIs (fun (s : PT) (b : Nat) ↦ packs (ptE s b)) ptE ∧
         pOk s ∧
          b3 = b3 ∧
           true = true ∧
            br = br ∧
             ∃ (h : RT = RT),
              AdtIs (fun (s : RT) (b : Nat) ↦ packs (rtE s b)) rtE ∧
               pOk (RT.mk s aor capr).t ∧
                K (frmR [J0] (bodyOf Try.f8) 34)
                 (Sy.mk (SV.raw (u 0) :: (SV.vec 0 ao (List.length bs) cap :: (rawR u 2 (SV.ptr 1 bt 0 :: (SV.ptr 2 br 0 :: (SV.int IntKind.i64 (↑i : Int) :: (SV.ptr 3 b3 0 :: (SV.int IntKind.i64 (0 : Int) :: (SV.int IntKind.i64 (0 : Int) :: (SV.int IntKind.i64 (pKill s x.2 x.3).2 :: (SV.int IntKind.i64 (pKill s x.2 x.3).2 :: (rawR u 13 (SV.ptr 1 bt 0 :: (SV.ptr 3 b3 1 :: (SV.int IntKind.i64 x.2 :: (SV.ptr 3 b3 2 :: (SV.int IntKind.i64 x.3 :: (SV.int IntKind.i64 (pKill s x.2 x.3).2 :: (SV.ptr 2 br 0 :: (SV.ptr 3 b3 1 :: (SV.int IntKind.i64 x.2 :: (SV.ptr 3 b3 2 :: (SV.int IntKind.i64 x.3 :: (SV.int IntKind.i64 (pKill s x.2 x.3).2 :: (rawR u 147 [] 75))))))))))))) 122))))))))) 3)))
                  [Ent.mk (Loc.sl ao cap) (SObj.roL 5 encStep bs (StepP.mk (0 : Int) (0 : Int) (0 : Int) (ByteArray.mk #[]) (ByteArray.mk #[]))),
                   pkA bt ptE (pKill s x.2 x.3).1, pkA br rtE (RT.mk (pKill s x.2 x.3).1 aor capr),
                   Ent.mk (Loc.blk b3) (SObj.cells [SV.int IntKind.i64 x.1, SV.int IntKind.i64 x.2, SV.int IntKind.i64 x.3, SV.str x.4, SV.str x.5] (68 : TypeId))])) ∧
      b3 = b3 ∧
       true = true ∧
        bt = bt ∧
         ∃ (h : PT = PT),
          AdtIs (fun (s : PT) (b : Nat) ↦ packs (ptE s b)) ptE ∧
           pOk s ∧
            true = true ∧
             br = br ∧
              ∃ (h : RT = RT),
               AdtIs (fun (s : RT) (b : Nat) ↦ packs (rtE s b)) rtE ∧
                pOk (RT.mk s aor capr).t ∧
                 K (frmR [J0] (bodyOf Try.f8) 34)
                  (Sy.mk (SV.raw (u 0) :: (SV.vec 0 ao (List.length bs) cap :: (rawR u 2 (SV.ptr 1 bt 0 :: (SV.ptr 2 br 0 :: (SV.int IntKind.i64 (↑i : Int) :: (SV.ptr 3 b3 0 :: (SV.int IntKind.i64 (0 : Int) :: (SV.int IntKind.i64 (0 : Int) :: (SV.int IntKind.i64 (pKill s x.2 x.3).2 :: (SV.int IntKind.i64 (pKill s x.2 x.3).2 :: (rawR u 13 (SV.ptr 1 bt 0 :: (SV.ptr 3 b3 1 :: (SV.int IntKind.i64 x.2 :: (SV.ptr 3 b3 2 :: (SV.int IntKind.i64 x.3 :: (SV.int IntKind.i64 (pKill s x.2 x.3).2 :: (SV.ptr 2 br 0 :: (SV.ptr 3 b3 1 :: (SV.int IntKind.i64 x.2 :: (SV.ptr 3 b3 2 :: (SV.int IntKind.i64 x.3 :: (SV.int IntKind.i64 (pKill s x.2 x.3).2 :: (rawR u 147 [] 75))))))))))))) 122))))))))) 3)))
                   [Ent.mk (Loc.sl ao cap) (SObj.roL 5 encStep bs (StepP.mk (0 : Int) (0 : Int) (0 : Int) (ByteArray.mk #[]) (ByteArray.mk #[]))),
                    pkA bt ptE (pKill s x.2 x.3).1, pkA br rtE (RT.mk (pKill s x.2 x.3).1 aor capr),
                    Ent.mk (Loc.blk b3) (SObj.cells [SV.int IntKind.i64 x.1, SV.int IntKind.i64 x.2, SV.int IntKind.i64 x.3, SV.str x.4, SV.str x.5] (68 : TypeId))])) ∧
     b3 = b3 ∧
      (true = true ∧
       bt = bt ∧
        ∃ (h : PT = PT),
         AdtIs (fun (s : PT) (b : Nat) ↦ packs (ptE s b)) ptE ∧
          pOk s ∧
           b3 = b3 ∧
            true = true ∧
             br = br ∧
              ∃ (h : RT = RT),
               AdtIs (fun (s : RT) (b : Nat) ↦ packs (rtE s b)) rtE ∧
                pOk (RT.mk s aor capr).t ∧
                 K (frmR [J0] (bodyOf Try.f8) 34)
                  (Sy.mk (SV.raw (u 0) :: (SV.vec 0 ao (List.length bs) cap :: (rawR u 2 (SV.ptr 1 bt 0 :: (SV.ptr 2 br 0 :: (SV.int IntKind.i64 (↑i : Int) :: (SV.ptr 3 b3 0 :: (SV.int IntKind.i64 (0 : Int) :: (SV.int IntKind.i64 (0 : Int) :: (SV.int IntKind.i64 (pKill s x.2 x.3).2 :: (SV.int IntKind.i64 (pKill s x.2 x.3).2 :: (rawR u 13 (SV.ptr 1 bt 0 :: (SV.ptr 3 b3 1 :: (SV.int IntKind.i64 x.2 :: (SV.ptr 3 b3 2 :: (SV.int IntKind.i64 x.3 :: (SV.int IntKind.i64 (pKill s x.2 x.3).2 :: (SV.ptr 2 br 0 :: (SV.ptr 3 b3 1 :: (SV.int IntKind.i64 x.2 :: (SV.ptr 3 b3 2 :: (SV.int IntKind.i64 x.3 :: (SV.int IntKind.i64 (pKill s x.2 x.3).2 :: (rawR u 147 [] 75))))))))))))) 122))))))))) 3)))
                   [Ent.mk (Loc.sl ao cap) (SObj.roL 5 encStep bs (StepP.mk (0 : Int) (0 : Int) (0 : Int) (ByteArray.mk #[]) (ByteArray.mk #[]))),
                    pkA bt ptE (pKill s x.2 x.3).1, pkA br rtE (RT.mk (pKill s x.2 x.3).1 aor capr),
                    Ent.mk (Loc.blk b3) (SObj.cells [SV.int IntKind.i64 x.1, SV.int IntKind.i64 x.2, SV.int IntKind.i64 x.3, SV.str x.4, SV.str x.5] (68 : TypeId))])) ∧
       b3 = b3 ∧
        true = true ∧
         bt = bt ∧
          ∃ (h : PT = PT),
           AdtIs (fun (s : PT) (b : Nat) ↦ packs (ptE s b)) ptE ∧
            pOk s ∧
             true = true ∧
              br = br ∧
               ∃ (h : RT = RT),
                AdtIs (fun (s : RT) (b : Nat) ↦ packs (rtE s b)) rtE ∧
                 pOk (RT.mk s aor capr).t ∧
                  K (frmR [J0] (bodyOf Try.f8) 34)
                   (Sy.mk (SV.raw (u 0) :: (SV.vec 0 ao (List.length bs) cap :: (rawR u 2 (SV.ptr 1 bt 0 :: (SV.ptr 2 br 0 :: (SV.int IntKind.i64 (↑i : Int) :: (SV.ptr 3 b3 0 :: (SV.int IntKind.i64 (0 : Int) :: (SV.int IntKind.i64 (0 : Int) :: (SV.int IntKind.i64 (pKill s x.2 x.3).2 :: (SV.int IntKind.i64 (pKill s x.2 x.3).2 :: (rawR u 13 (SV.ptr 1 bt 0 :: (SV.ptr 3 b3 1 :: (SV.int IntKind.i64 x.2 :: (SV.ptr 3 b3 2 :: (SV.int IntKind.i64 x.3 :: (SV.int IntKind.i64 (pKill s x.2 x.3).2 :: (SV.ptr 2 br 0 :: (SV.ptr 3 b3 1 :: (SV.int IntKind.i64 x.2 :: (SV.ptr 3 b3 2 :: (SV.int IntKind.i64 x.3 :: (SV.int IntKind.i64 (pKill s x.2 x.3).2 :: (rawR u 147 [] 75))))))))))))) 122))))))))) 3)))
                    [Ent.mk (Loc.sl ao cap) (SObj.roL 5 encStep bs (StepP.mk (0 : Int) (0 : Int) (0 : Int) (ByteArray.mk #[]) (ByteArray.mk #[]))),
                     pkA bt ptE (pKill s x.2 x.3).1, pkA br rtE (RT.mk (pKill s x.2 x.3).1 aor capr),
                     Ent.mk (Loc.blk b3) (SObj.cells [SV.int IntKind.i64 x.1, SV.int IntKind.i64 x.2, SV.int IntKind.i64 x.3, SV.str x.4, SV.str x.5] (68 : TypeId))])) ∧
   (b3 = b3 ∧
    (b3 = b3 ∧
     (true = true ∧
      bt = bt ∧
       ∃ (h : PT = PT),
        AdtIs (fun (s : PT) (b : Nat) ↦ packs (ptE s b)) ptE ∧
         pOk s ∧
          b3 = b3 ∧
           true = true ∧
            br = br ∧
             ∃ (h : RT = RT),
              AdtIs (fun (s : RT) (b : Nat) ↦ packs (rtE s b)) rtE ∧
               pOk (RT.mk s aor capr).t ∧
                K (frmR [J0] (bodyOf Try.f8) 34)
                 (Sy.mk (SV.raw (u 0) :: (SV.vec 0 ao (List.length bs) cap :: (rawR u 2 (SV.ptr 1 bt 0 :: (SV.ptr 2 br 0 :: (SV.int IntKind.i64 (↑i : Int) :: (SV.ptr 3 b3 0 :: (SV.int IntKind.i64 (0 : Int) :: (SV.int IntKind.i64 (0 : Int) :: (SV.int IntKind.i64 (pKill s x.2 x.3).2 :: (SV.int IntKind.i64 (pKill s x.2 x.3).2 :: (rawR u 13 (SV.ptr 1 bt 0 :: (SV.ptr 3 b3 1 :: (SV.int IntKind.i64 x.2 :: (SV.ptr 3 b3 2 :: (SV.int IntKind.i64 x.3 :: (SV.int IntKind.i64 (pKill s x.2 x.3).2 :: (SV.ptr 2 br 0 :: (SV.ptr 3 b3 1 :: (SV.int IntKind.i64 x.2 :: (SV.ptr 3 b3 2 :: (SV.int IntKind.i64 x.3 :: (SV.int IntKind.i64 (pKill s x.2 x.3).2 :: (rawR u 147 [] 75))))))))))))) 122))))))))) 3)))
                  [Ent.mk (Loc.sl ao cap) (SObj.roL 5 encStep bs (StepP.mk (0 : Int) (0 : Int) (0 : Int) (ByteArray.mk #[]) (ByteArray.mk #[]))),
                   pkA bt ptE (pKill s x.2 x.3).1, pkA br rtE (RT.mk (pKill s x.2 x.3).1 aor capr),
                   Ent.mk (Loc.blk b3) (SObj.cells [SV.int IntKind.i64 x.1, SV.int IntKind.i64 x.2, SV.int IntKind.i64 x.3, SV.str x.4, SV.str x.5] (68 : TypeId))])) ∧
      b3 = b3 ∧
       true = true ∧
        bt = bt ∧
         ∃ (h : PT = PT),
          AdtIs (fun (s : PT) (b : Nat) ↦ packs (ptE s b)) ptE ∧
           pOk s ∧
            true = true ∧
             br = br ∧
              ∃ (h : RT = RT),
               AdtIs (fun (s : RT) (b : Nat) ↦ packs (rtE s b)) rtE ∧
                pOk (RT.mk s aor capr).t ∧
                 K (frmR [J0] (bodyOf Try.f8) 34)
                  (Sy.mk (SV.raw (u 0) :: (SV.vec 0 ao (List.length bs) cap :: (rawR u 2 (SV.ptr 1 bt 0 :: (SV.ptr 2 br 0 :: (SV.int IntKind.i64 (↑i : Int) :: (SV.ptr 3 b3 0 :: (SV.int IntKind.i64 (0 : Int) :: (SV.int IntKind.i64 (0 : Int) :: (SV.int IntKind.i64 (pKill s x.2 x.3).2 :: (SV.int IntKind.i64 (pKill s x.2 x.3).2 :: (rawR u 13 (SV.ptr 1 bt 0 :: (SV.ptr 3 b3 1 :: (SV.int IntKind.i64 x.2 :: (SV.ptr 3 b3 2 :: (SV.int IntKind.i64 x.3 :: (SV.int IntKind.i64 (pKill s x.2 x.3).2 :: (SV.ptr 2 br 0 :: (SV.ptr 3 b3 1 :: (SV.int IntKind.i64 x.2 :: (SV.ptr 3 b3 2 :: (SV.int IntKind.i64 x.3 :: (SV.int IntKind.i64 (pKill s x.2 x.3).2 :: (rawR u 147 [] 75))))))))))))) 122))))))))) 3)))
                   [Ent.mk (Loc.sl ao cap) (SObj.roL 5 encStep bs (StepP.mk (0 : Int) (0 : Int) (0 : Int) (ByteArray.mk #[]) (ByteArray.mk #[]))),
                    pkA bt ptE (pKill s x.2 x.3).1, pkA br rtE (RT.mk (pKill s x.2 x.3).1 aor capr),
                    Ent.mk (Loc.blk b3) (SObj.cells [SV.int IntKind.i64 x.1, SV.int IntKind.i64 x.2, SV.int IntKind.i64 x.3, SV.str x.4, SV.str x.5] (68 : TypeId))])) ∧
     b3 = b3 ∧
      b3 = b3 ∧
       true = true ∧
        bt = bt ∧
         ∃ (h : PT = PT),
          AdtIs (fun (s : PT) (b : Nat) ↦ packs (ptE s b)) ptE ∧
           pOk s ∧
            true = true ∧
             br = br ∧
              ∃ (h : RT = RT),
               AdtIs (fun (s : RT) (b : Nat) ↦ packs (rtE s b)) rtE ∧
                pOk (RT.mk s aor capr).t ∧
                 K (frmR [J0] (bodyOf Try.f8) 34)
                  (Sy.mk (SV.raw (u 0) :: (SV.vec 0 ao (List.length bs) cap :: (rawR u 2 (SV.ptr 1 bt 0 :: (SV.ptr 2 br 0 :: (SV.int IntKind.i64 (↑i : Int) :: (SV.ptr 3 b3 0 :: (SV.int IntKind.i64 (0 : Int) :: (SV.int IntKind.i64 (0 : Int) :: (SV.int IntKind.i64 (pKill s x.2 x.3).2 :: (SV.int IntKind.i64 (pKill s x.2 x.3).2 :: (rawR u 13 (SV.ptr 1 bt 0 :: (SV.ptr 3 b3 1 :: (SV.int IntKind.i64 x.2 :: (SV.ptr 3 b3 2 :: (SV.int IntKind.i64 x.3 :: (SV.int IntKind.i64 (pKill s x.2 x.3).2 :: (SV.ptr 2 br 0 :: (SV.ptr 3 b3 1 :: (SV.int IntKind.i64 x.2 :: (SV.ptr 3 b3 2 :: (SV.int IntKind.i64 x.3 :: (SV.int IntKind.i64 (pKill s x.2 x.3).2 :: (rawR u 147 [] 75))))))))))))) 122))))))))) 3)))
                   [Ent.mk (Loc.sl ao cap) (SObj.roL 5 encStep bs (StepP.mk (0 : Int) (0 : Int) (0 : Int) (ByteArray.mk #[]) (ByteArray.mk #[]))),
                    pkA bt ptE (pKill s x.2 x.3).1, pkA br rtE (RT.mk (pKill s x.2 x.3).1 aor capr),
                    Ent.mk (Loc.blk b3) (SObj.cells [SV.int IntKind.i64 x.1, SV.int IntKind.i64 x.2, SV.int IntKind.i64 x.3, SV.str x.4, SV.str x.5] (68 : TypeId))])) ∧
    b3 = b3 ∧
     (b3 = b3 ∧
      (true = true ∧
       bt = bt ∧
        ∃ (h : PT = PT),
         AdtIs (fun (s : PT) (b : Nat) ↦ packs (ptE s b)) ptE ∧
          pOk s ∧
           b3 = b3 ∧
            true = true ∧
             br = br ∧
              ∃ (h : RT = RT),
               AdtIs (fun (s : RT) (b : Nat) ↦ packs (rtE s b)) rtE ∧
                pOk (RT.mk s aor capr).t ∧
                 K (frmR [J0] (bodyOf Try.f8) 34)
                  (Sy.mk (SV.raw (u 0) :: (SV.vec 0 ao (List.length bs) cap :: (rawR u 2 (SV.ptr 1 bt 0 :: (SV.ptr 2 br 0 :: (SV.int IntKind.i64 (↑i : Int) :: (SV.ptr 3 b3 0 :: (SV.int IntKind.i64 (0 : Int) :: (SV.int IntKind.i64 (0 : Int) :: (SV.int IntKind.i64 (pKill s x.2 x.3).2 :: (SV.int IntKind.i64 (pKill s x.2 x.3).2 :: (rawR u 13 (SV.ptr 1 bt 0 :: (SV.ptr 3 b3 1 :: (SV.int IntKind.i64 x.2 :: (SV.ptr 3 b3 2 :: (SV.int IntKind.i64 x.3 :: (SV.int IntKind.i64 (pKill s x.2 x.3).2 :: (SV.ptr 2 br 0 :: (SV.ptr 3 b3 1 :: (SV.int IntKind.i64 x.2 :: (SV.ptr 3 b3 2 :: (SV.int IntKind.i64 x.3 :: (SV.int IntKind.i64 (pKill s x.2 x.3).2 :: (rawR u 147 [] 75))))))))))))) 122))))))))) 3)))
                   [Ent.mk (Loc.sl ao cap) (SObj.roL 5 encStep bs (StepP.mk (0 : Int) (0 : Int) (0 : Int) (ByteArray.mk #[]) (ByteArray.mk #[]))),
                    pkA bt ptE (pKill s x.2 x.3).1, pkA br rtE (RT.mk (pKill s x.2 x.3).1 aor capr),
                    Ent.mk (Loc.blk b3) (SObj.cells [SV.int IntKind.i64 x.1, SV.int IntKind.i64 x.2, SV.int IntKind.i64 x.3, SV.str x.4, SV.str x.5] (68 : TypeId))])) ∧
       b3 = b3 ∧
        true = true ∧
         bt = bt ∧
          ∃ (h : PT = PT),
           AdtIs (fun (s : PT) (b : Nat) ↦ packs (ptE s b)) ptE ∧
            pOk s ∧
             true = true ∧
              br = br ∧
               ∃ (h : RT = RT),
                AdtIs (fun (s : RT) (b : Nat) ↦ packs (rtE s b)) rtE ∧
                 pOk (RT.mk s aor capr).t ∧
                  K (frmR [J0] (bodyOf Try.f8) 34)
                   (Sy.mk (SV.raw (u 0) :: (SV.vec 0 ao (List.length bs) cap :: (rawR u 2 (SV.ptr 1 bt 0 :: (SV.ptr 2 br 0 :: (SV.int IntKind.i64 (↑i : Int) :: (SV.ptr 3 b3 0 :: (SV.int IntKind.i64 (0 : Int) :: (SV.int IntKind.i64 (0 : Int) :: (SV.int IntKind.i64 (pKill s x.2 x.3).2 :: (SV.int IntKind.i64 (pKill s x.2 x.3).2 :: (rawR u 13 (SV.ptr 1 bt 0 :: (SV.ptr 3 b3 1 :: (SV.int IntKind.i64 x.2 :: (SV.ptr 3 b3 2 :: (SV.int IntKind.i64 x.3 :: (SV.int IntKind.i64 (pKill s x.2 x.3).2 :: (SV.ptr 2 br 0 :: (SV.ptr 3 b3 1 :: (SV.int IntKind.i64 x.2 :: (SV.ptr 3 b3 2 :: (SV.int IntKind.i64 x.3 :: (SV.int IntKind.i64 (pKill s x.2 x.3).2 :: (rawR u 147 [] 75))))))))))))) 122))))))))) 3)))
                    [Ent.mk (Loc.sl ao cap) (SObj.roL 5 encStep bs (StepP.mk (0 : Int) (0 : Int) (0 : Int) (ByteArray.mk #[]) (ByteArray.mk #[]))),
                     pkA bt ptE (pKill s x.2 x.3).1, pkA br rtE (RT.mk (pKill s x.2 x.3).1 aor capr),
                     Ent.mk (Loc.blk b3) (SObj.cells [SV.int IntKind.i64 x.1, SV.int IntKind.i64 x.2, SV.int IntKind.i64 x.3, SV.str x.4, SV.str x.5] (68 : TypeId))])) ∧
      b3 = b3 ∧
       b3 = b3 ∧
        true = true ∧
         bt = bt ∧
          ∃ (h : PT = PT),
           AdtIs (fun (s : PT) (b : Nat) ↦ packs (ptE s b)) ptE ∧
            pOk s ∧
             true = true ∧
              br = br ∧
               ∃ (h : RT = RT),
                AdtIs (fun (s : RT) (b : Nat) ↦ packs (rtE s b)) rtE ∧
                 pOk (RT.mk s aor capr).t ∧
                  K (frmR [J0] (bodyOf Try.f8) 34)
                   (Sy.mk (SV.raw (u 0) :: (SV.vec 0 ao (List.length bs) cap :: (rawR u 2 (SV.ptr 1 bt 0 :: (SV.ptr 2 br 0 :: (SV.int IntKind.i64 (↑i : Int) :: (SV.ptr 3 b3 0 :: (SV.int IntKind.i64 (0 : Int) :: (SV.int IntKind.i64 (0 : Int) :: (SV.int IntKind.i64 (pKill s x.2 x.3).2 :: (SV.int IntKind.i64 (pKill s x.2 x.3).2 :: (rawR u 13 (SV.ptr 1 bt 0 :: (SV.ptr 3 b3 1 :: (SV.int IntKind.i64 x.2 :: (SV.ptr 3 b3 2 :: (SV.int IntKind.i64 x.3 :: (SV.int IntKind.i64 (pKill s x.2 x.3).2 :: (SV.ptr 2 br 0 :: (SV.ptr 3 b3 1 :: (SV.int IntKind.i64 x.2 :: (SV.ptr 3 b3 2 :: (SV.int IntKind.i64 x.3 :: (SV.int IntKind.i64 (pKill s x.2 x.3).2 :: (rawR u 147 [] 75))))))))))))) 122))))))))) 3)))
                    [Ent.mk (Loc.sl ao cap) (SObj.roL 5 encStep bs (StepP.mk (0 : Int) (0 : Int) (0 : Int) (ByteArray.mk #[]) (ByteArray.mk #[]))),
                     pkA bt ptE (pKill s x.2 x.3).1, pkA br rtE (RT.mk (pKill s x.2 x.3).1 aor capr),
                     Ent.mk (Loc.blk b3) (SObj.cells [SV.int IntKind.i64 x.1, SV.int IntKind.i64 x.2, SV.int IntKind.i64 x.3, SV.str x.4, SV.str x.5] (68 : TypeId))])) ∧
  (b3 = b3 ∧
   (b3 = b3 ∧
    (b3 = b3 ∧
     (true = true ∧
      bt = bt ∧
       ∃ (h : PT = PT),
        AdtIs (fun (s : PT) (b : Nat) ↦ packs (ptE s b)) ptE ∧
         pOk s ∧
          b3 = b3 ∧
           true = true ∧
            br = br ∧
             ∃ (h : RT = RT),
              AdtIs (fun (s : RT) (b : Nat) ↦ packs (rtE s b)) rtE ∧
               pOk (RT.mk s aor capr).t ∧
                K (frmR [J0] (bodyOf Try.f8) 34)
                 (Sy.mk (SV.raw (u 0) :: (SV.vec 0 ao (List.length bs) cap :: (rawR u 2 (SV.ptr 1 bt 0 :: (SV.ptr 2 br 0 :: (SV.int IntKind.i64 (↑i : Int) :: (SV.ptr 3 b3 0 :: (SV.int IntKind.i64 (0 : Int) :: (SV.int IntKind.i64 (0 : Int) :: (SV.int IntKind.i64 (pKill s x.2 x.3).2 :: (SV.int IntKind.i64 (pKill s x.2 x.3).2 :: (rawR u 13 (SV.ptr 1 bt 0 :: (SV.ptr 3 b3 1 :: (SV.int IntKind.i64 x.2 :: (SV.ptr 3 b3 2 :: (SV.int IntKind.i64 x.3 :: (SV.int IntKind.i64 (pKill s x.2 x.3).2 :: (SV.ptr 2 br 0 :: (SV.ptr 3 b3 1 :: (SV.int IntKind.i64 x.2 :: (SV.ptr 3 b3 2 :: (SV.int IntKind.i64 x.3 :: (SV.int IntKind.i64 (pKill s x.2 x.3).2 :: (rawR u 147 [] 75))))))))))))) 122))))))))) 3)))
                  [Ent.mk (Loc.sl ao cap) (SObj.roL 5 encStep bs (StepP.mk (0 : Int) (0 : Int) (0 : Int) (ByteArray.mk #[]) (ByteArray.mk #[]))),
                   pkA bt ptE (pKill s x.2 x.3).1, pkA br rtE (RT.mk (pKill s x.2 x.3).1 aor capr),
                   Ent.mk (Loc.blk b3) (SObj.cells [SV.int IntKind.i64 x.1, SV.int IntKind.i64 x.2, SV.int IntKind.i64 x.3, SV.str x.4, SV.str x.5] (68 : TypeId))])) ∧
      b3 = b3 ∧
       true = true ∧
        bt = bt ∧
         ∃ (h : PT = PT),
          AdtIs (fun (s : PT) (b : Nat) ↦ packs (ptE s b)) ptE ∧
           pOk s ∧
            true = true ∧
             br = br ∧
              ∃ (h : RT = RT),
               AdtIs (fun (s : RT) (b : Nat) ↦ packs (rtE s b)) rtE ∧
                pOk (RT.mk s aor capr).t ∧
                 K (frmR [J0] (bodyOf Try.f8) 34)
                  (Sy.mk (SV.raw (u 0) :: (SV.vec 0 ao (List.length bs) cap :: (rawR u 2 (SV.ptr 1 bt 0 :: (SV.ptr 2 br 0 :: (SV.int IntKind.i64 (↑i : Int) :: (SV.ptr 3 b3 0 :: (SV.int IntKind.i64 (0 : Int) :: (SV.int IntKind.i64 (0 : Int) :: (SV.int IntKind.i64 (pKill s x.2 x.3).2 :: (SV.int IntKind.i64 (pKill s x.2 x.3).2 :: (rawR u 13 (SV.ptr 1 bt 0 :: (SV.ptr 3 b3 1 :: (SV.int IntKind.i64 x.2 :: (SV.ptr 3 b3 2 :: (SV.int IntKind.i64 x.3 :: (SV.int IntKind.i64 (pKill s x.2 x.3).2 :: (SV.ptr 2 br 0 :: (SV.ptr 3 b3 1 :: (SV.int IntKind.i64 x.2 :: (SV.ptr 3 b3 2 :: (SV.int IntKind.i64 x.3 :: (SV.int IntKind.i64 (pKill s x.2 x.3).2 :: (rawR u 147 [] 75))))))))))))) 122))))))))) 3)))
                   [Ent.mk (Loc.sl ao cap) (SObj.roL 5 encStep bs (StepP.mk (0 : Int) (0 : Int) (0 : Int) (ByteArray.mk #[]) (ByteArray.mk #[]))),
                    pkA bt ptE (pKill s x.2 x.3).1, pkA br rtE (RT.mk (pKill s x.2 x.3).1 aor capr),
                    Ent.mk (Loc.blk b3) (SObj.cells [SV.int IntKind.i64 x.1, SV.int IntKind.i64 x.2, SV.int IntKind.i64 x.3, SV.str x.4, SV.str x.5] (68 : TypeId))])) ∧
     b3 = b3 ∧
      b3 = b3 ∧
       true = true ∧
        bt = bt ∧
         ∃ (h : PT = PT),
          AdtIs (fun (s : PT) (b : Nat) ↦ packs (ptE s b)) ptE ∧
           pOk s ∧
            true = true ∧
             br = br ∧
              ∃ (h : RT = RT),
               AdtIs (fun (s : RT) (b : Nat) ↦ packs (rtE s b)) rtE ∧
                pOk (RT.mk s aor capr).t ∧
                 K (frmR [J0] (bodyOf Try.f8) 34)
                  (Sy.mk (SV.raw (u 0) :: (SV.vec 0 ao (List.length bs) cap :: (rawR u 2 (SV.ptr 1 bt 0 :: (SV.ptr 2 br 0 :: (SV.int IntKind.i64 (↑i : Int) :: (SV.ptr 3 b3 0 :: (SV.int IntKind.i64 (0 : Int) :: (SV.int IntKind.i64 (0 : Int) :: (SV.int IntKind.i64 (pKill s x.2 x.3).2 :: (SV.int IntKind.i64 (pKill s x.2 x.3).2 :: (rawR u 13 (SV.ptr 1 bt 0 :: (SV.ptr 3 b3 1 :: (SV.int IntKind.i64 x.2 :: (SV.ptr 3 b3 2 :: (SV.int IntKind.i64 x.3 :: (SV.int IntKind.i64 (pKill s x.2 x.3).2 :: (SV.ptr 2 br 0 :: (SV.ptr 3 b3 1 :: (SV.int IntKind.i64 x.2 :: (SV.ptr 3 b3 2 :: (SV.int IntKind.i64 x.3 :: (SV.int IntKind.i64 (pKill s x.2 x.3).2 :: (rawR u 147 [] 75))))))))))))) 122))))))))) 3)))
                   [Ent.mk (Loc.sl ao cap) (SObj.roL 5 encStep bs (StepP.mk (0 : Int) (0 : Int) (0 : Int) (ByteArray.mk #[]) (ByteArray.mk #[]))),
                    pkA bt ptE (pKill s x.2 x.3).1, pkA br rtE (RT.mk (pKill s x.2 x.3).1 aor capr),
                    Ent.mk (Loc.blk b3) (SObj.cells [SV.int IntKind.i64 x.1, SV.int IntKind.i64 x.2, SV.int IntKind.i64 x.3, SV.str x.4, SV.str x.5] (68 : TypeId))])) ∧
    (b3 = b3 ∧
     (b3 = b3 ∧
      (true = true ∧
       bt = bt ∧
        ∃ (h : PT = PT),
         AdtIs (fun (s : PT) (b : Nat) ↦ packs (ptE s b)) ptE ∧
          pOk s ∧
           b3 = b3 ∧
            true = true ∧
             br = br ∧
              ∃ (h : RT = RT),
               AdtIs (fun (s : RT) (b : Nat) ↦ packs (rtE s b)) rtE ∧
                pOk (RT.mk s aor capr).t ∧
                 K (frmR [J0] (bodyOf Try.f8) 34)
                  (Sy.mk (SV.raw (u 0) :: (SV.vec 0 ao (List.length bs) cap :: (rawR u 2 (SV.ptr 1 bt 0 :: (SV.ptr 2 br 0 :: (SV.int IntKind.i64 (↑i : Int) :: (SV.ptr 3 b3 0 :: (SV.int IntKind.i64 (0 : Int) :: (SV.int IntKind.i64 (0 : Int) :: (SV.int IntKind.i64 (pKill s x.2 x.3).2 :: (SV.int IntKind.i64 (pKill s x.2 x.3).2 :: (rawR u 13 (SV.ptr 1 bt 0 :: (SV.ptr 3 b3 1 :: (SV.int IntKind.i64 x.2 :: (SV.ptr 3 b3 2 :: (SV.int IntKind.i64 x.3 :: (SV.int IntKind.i64 (pKill s x.2 x.3).2 :: (SV.ptr 2 br 0 :: (SV.ptr 3 b3 1 :: (SV.int IntKind.i64 x.2 :: (SV.ptr 3 b3 2 :: (SV.int IntKind.i64 x.3 :: (SV.int IntKind.i64 (pKill s x.2 x.3).2 :: (rawR u 147 [] 75))))))))))))) 122))))))))) 3)))
                   [Ent.mk (Loc.sl ao cap) (SObj.roL 5 encStep bs (StepP.mk (0 : Int) (0 : Int) (0 : Int) (ByteArray.mk #[]) (ByteArray.mk #[]))),
                    pkA bt ptE (pKill s x.2 x.3).1, pkA br rtE (RT.mk (pKill s x.2 x.3).1 aor capr),
                    Ent.mk (Loc.blk b3) (SObj.cells [SV.int IntKind.i64 x.1, SV.int IntKind.i64 x.2, SV.int IntKind.i64 x.3, SV.str x.4, SV.str x.5] (68 : TypeId))])) ∧
       b3 = b3 ∧
        true = true ∧
         bt = bt ∧
          ∃ (h : PT = PT),
           AdtIs (fun (s : PT) (b : Nat) ↦ packs (ptE s b)) ptE ∧
            pOk s ∧
             true = true ∧
              br = br ∧
               ∃ (h : RT = RT),
                AdtIs (fun (s : RT) (b : Nat) ↦ packs (rtE s b)) rtE ∧
                 pOk (RT.mk s aor capr).t ∧
                  K (frmR [J0] (bodyOf Try.f8) 34)
                   (Sy.mk (SV.raw (u 0) :: (SV.vec 0 ao (List.length bs) cap :: (rawR u 2 (SV.ptr 1 bt 0 :: (SV.ptr 2 br 0 :: (SV.int IntKind.i64 (↑i : Int) :: (SV.ptr 3 b3 0 :: (SV.int IntKind.i64 (0 : Int) :: (SV.int IntKind.i64 (0 : Int) :: (SV.int IntKind.i64 (pKill s x.2 x.3).2 :: (SV.int IntKind.i64 (pKill s x.2 x.3).2 :: (rawR u 13 (SV.ptr 1 bt 0 :: (SV.ptr 3 b3 1 :: (SV.int IntKind.i64 x.2 :: (SV.ptr 3 b3 2 :: (SV.int IntKind.i64 x.3 :: (SV.int IntKind.i64 (pKill s x.2 x.3).2 :: (SV.ptr 2 br 0 :: (SV.ptr 3 b3 1 :: (SV.int IntKind.i64 x.2 :: (SV.ptr 3 b3 2 :: (SV.int IntKind.i64 x.3 :: (SV.int IntKind.i64 (pKill s x.2 x.3).2 :: (rawR u 147 [] 75))))))))))))) 122))))))))) 3)))
                    [Ent.mk (Loc.sl ao cap) (SObj.roL 5 encStep bs (StepP.mk (0 : Int) (0 : Int) (0 : Int) (ByteArray.mk #[]) (ByteArray.mk #[]))),
                     pkA bt ptE (pKill s x.2 x.3).1, pkA br rtE (RT.mk (pKill s x.2 x.3).1 aor capr),
                     Ent.mk (Loc.blk b3) (SObj.cells [SV.int IntKind.i64 x.1, SV.int IntKind.i64 x.2, SV.int IntKind.i64 x.3, SV.str x.4, SV.str x.5] (68 : TypeId))])) ∧
      b3 = b3 ∧
       b3 = b3 ∧
        true = true ∧
         bt = bt ∧
          ∃ (h : PT = PT),
           AdtIs (fun (s : PT) (b : Nat) ↦ packs (ptE s b)) ptE ∧
            pOk s ∧
             true = true ∧
              br = br ∧
               ∃ (h : RT = RT),
                AdtIs (fun (s : RT) (b : Nat) ↦ packs (rtE s b)) rtE ∧
                 pOk (RT.mk s aor capr).t ∧
                  K (frmR [J0] (bodyOf Try.f8) 34)
                   (Sy.mk (SV.raw (u 0) :: (SV.vec 0 ao (List.length bs) cap :: (rawR u 2 (SV.ptr 1 bt 0 :: (SV.ptr 2 br 0 :: (SV.int IntKind.i64 (↑i : Int) :: (SV.ptr 3 b3 0 :: (SV.int IntKind.i64 (0 : Int) :: (SV.int IntKind.i64 (0 : Int) :: (SV.int IntKind.i64 (pKill s x.2 x.3).2 :: (SV.int IntKind.i64 (pKill s x.2 x.3).2 :: (rawR u 13 (SV.ptr 1 bt 0 :: (SV.ptr 3 b3 1 :: (SV.int IntKind.i64 x.2 :: (SV.ptr 3 b3 2 :: (SV.int IntKind.i64 x.3 :: (SV.int IntKind.i64 (pKill s x.2 x.3).2 :: (SV.ptr 2 br 0 :: (SV.ptr 3 b3 1 :: (SV.int IntKind.i64 x.2 :: (SV.ptr 3 b3 2 :: (SV.int IntKind.i64 x.3 :: (SV.int IntKind.i64 (pKill s x.2 x.3).2 :: (rawR u 147 [] 75))))))))))))) 122))))))))) 3)))
                    [Ent.mk (Loc.sl ao cap) (SObj.roL 5 encStep bs (StepP.mk (0 : Int) (0 : Int) (0 : Int) (ByteArray.mk #[]) (ByteArray.mk #[]))),
                     pkA bt ptE (pKill s x.2 x.3).1, pkA br rtE (RT.mk (pKill s x.2 x.3).1 aor capr),
                     Ent.mk (Loc.blk b3) (SObj.cells [SV.int IntKind.i64 x.1, SV.int IntKind.i64 x.2, SV.int IntKind.i64 x.3, SV.str x.4, SV.str x.5] (68 : TypeId))])) ∧
     b3 = b3 ∧
      (b3 = b3 ∧
       b3 = b3 ∧
        true = true ∧
         bt = bt ∧
          ∃ (h : PT = PT),
           AdtIs (fun (s : PT) (b : Nat) ↦ packs (ptE s b)) ptE ∧
            pOk s ∧
             true = true ∧
              br = br ∧
               ∃ (h : RT = RT),
                AdtIs (fun (s : RT) (b : Nat) ↦ packs (rtE s b)) rtE ∧
                 pOk (RT.mk s aor capr).t ∧
                  K (frmR [J0] (bodyOf Try.f8) 34)
                   (Sy.mk (SV.raw (u 0) :: (SV.vec 0 ao (List.length bs) cap :: (rawR u 2 (SV.ptr 1 bt 0 :: (SV.ptr 2 br 0 :: (SV.int IntKind.i64 (↑i : Int) :: (SV.ptr 3 b3 0 :: (SV.int IntKind.i64 (0 : Int) :: (SV.int IntKind.i64 (0 : Int) :: (SV.int IntKind.i64 (pKill s x.2 x.3).2 :: (SV.int IntKind.i64 (pKill s x.2 x.3).2 :: (rawR u 13 (SV.ptr 1 bt 0 :: (SV.ptr 3 b3 1 :: (SV.int IntKind.i64 x.2 :: (SV.ptr 3 b3 2 :: (SV.int IntKind.i64 x.3 :: (SV.int IntKind.i64 (pKill s x.2 x.3).2 :: (SV.ptr 2 br 0 :: (SV.ptr 3 b3 1 :: (SV.int IntKind.i64 x.2 :: (SV.ptr 3 b3 2 :: (SV.int IntKind.i64 x.3 :: (SV.int IntKind.i64 (pKill s x.2 x.3).2 :: (rawR u 147 [] 75))))))))))))) 122))))))))) 3)))
                    [Ent.mk (Loc.sl ao cap) (SObj.roL 5 encStep bs (StepP.mk (0 : Int) (0 : Int) (0 : Int) (ByteArray.mk #[]) (ByteArray.mk #[]))),
                     pkA bt ptE (pKill s x.2 x.3).1, pkA br rtE (RT.mk (pKill s x.2 x.3).1 aor capr),
                     Ent.mk (Loc.blk b3) (SObj.cells [SV.int IntKind.i64 x.1, SV.int IntKind.i64 x.2, SV.int IntKind.i64 x.3, SV.str x.4, SV.str x.5] (68 : TypeId))])) ∧
       b3 = b3 ∧
        b3 = b3 ∧
         true = true ∧
          bt = bt ∧
           ∃ (h : PT = PT),
            AdtIs (fun (s : PT) (b : Nat) ↦ packs (ptE s b)) ptE ∧
             pOk s ∧
              true = true ∧
               br = br ∧
                ∃ (h : RT = RT),
                 AdtIs (fun (s : RT) (b : Nat) ↦ packs (rtE s b)) rtE ∧
                  pOk (RT.mk s aor capr).t ∧
                   K (frmR [J0] (bodyOf Try.f8) 34)
                    (Sy.mk (SV.raw (u 0) :: (SV.vec 0 ao (List.length bs) cap :: (rawR u 2 (SV.ptr 1 bt 0 :: (SV.ptr 2 br 0 :: (SV.int IntKind.i64 (↑i : Int) :: (SV.ptr 3 b3 0 :: (SV.int IntKind.i64 (0 : Int) :: (SV.int IntKind.i64 (0 : Int) :: (SV.int IntKind.i64 (pKill s x.2 x.3).2 :: (SV.int IntKind.i64 (pKill s x.2 x.3).2 :: (rawR u 13 (SV.ptr 1 bt 0 :: (SV.ptr 3 b3 1 :: (SV.int IntKind.i64 x.2 :: (SV.ptr 3 b3 2 :: (SV.int IntKind.i64 x.3 :: (SV.int IntKind.i64 (pKill s x.2 x.3).2 :: (SV.ptr 2 br 0 :: (SV.ptr 3 b3 1 :: (SV.int IntKind.i64 x.2 :: (SV.ptr 3 b3 2 :: (SV.int IntKind.i64 x.3 :: (SV.int IntKind.i64 (pKill s x.2 x.3).2 :: (rawR u 147 [] 75))))))))))))) 122))))))))) 3)))
                     [Ent.mk (Loc.sl ao cap) (SObj.roL 5 encStep bs (StepP.mk (0 : Int) (0 : Int) (0 : Int) (ByteArray.mk #[]) (ByteArray.mk #[]))),
                      pkA bt ptE (pKill s x.2 x.3).1, pkA br rtE (RT.mk (pKill s x.2 x.3).1 aor capr),
                      Ent.mk (Loc.blk b3) (SObj.cells [SV.int IntKind.i64 x.1, SV.int IntKind.i64 x.2, SV.int IntKind.i64 x.3, SV.str x.4, SV.str x.5] (68 : TypeId))])) ∧
   b3 = b3 ∧
    (b3 = b3 ∧
     (b3 = b3 ∧
      (true = true ∧
       bt = bt ∧
        ∃ (h : PT = PT),
         AdtIs (fun (s : PT) (b : Nat) ↦ packs (ptE s b)) ptE ∧
          pOk s ∧
           b3 = b3 ∧
            true = true ∧
             br = br ∧
              ∃ (h : RT = RT),
               AdtIs (fun (s : RT) (b : Nat) ↦ packs (rtE s b)) rtE ∧
                pOk (RT.mk s aor capr).t ∧
                 K (frmR [J0] (bodyOf Try.f8) 34)
                  (Sy.mk (SV.raw (u 0) :: (SV.vec 0 ao (List.length bs) cap :: (rawR u 2 (SV.ptr 1 bt 0 :: (SV.ptr 2 br 0 :: (SV.int IntKind.i64 (↑i : Int) :: (SV.ptr 3 b3 0 :: (SV.int IntKind.i64 (0 : Int) :: (SV.int IntKind.i64 (0 : Int) :: (SV.int IntKind.i64 (pKill s x.2 x.3).2 :: (SV.int IntKind.i64 (pKill s x.2 x.3).2 :: (rawR u 13 (SV.ptr 1 bt 0 :: (SV.ptr 3 b3 1 :: (SV.int IntKind.i64 x.2 :: (SV.ptr 3 b3 2 :: (SV.int IntKind.i64 x.3 :: (SV.int IntKind.i64 (pKill s x.2 x.3).2 :: (SV.ptr 2 br 0 :: (SV.ptr 3 b3 1 :: (SV.int IntKind.i64 x.2 :: (SV.ptr 3 b3 2 :: (SV.int IntKind.i64 x.3 :: (SV.int IntKind.i64 (pKill s x.2 x.3).2 :: (rawR u 147 [] 75))))))))))))) 122))))))))) 3)))
                   [Ent.mk (Loc.sl ao cap) (SObj.roL 5 encStep bs (StepP.mk (0 : Int) (0 : Int) (0 : Int) (ByteArray.mk #[]) (ByteArray.mk #[]))),
                    pkA bt ptE (pKill s x.2 x.3).1, pkA br rtE (RT.mk (pKill s x.2 x.3).1 aor capr),
                    Ent.mk (Loc.blk b3) (SObj.cells [SV.int IntKind.i64 x.1, SV.int IntKind.i64 x.2, SV.int IntKind.i64 x.3, SV.str x.4, SV.str x.5] (68 : TypeId))])) ∧
       b3 = b3 ∧
        true = true ∧
         bt = bt ∧
          ∃ (h : PT = PT),
           AdtIs (fun (s : PT) (b : Nat) ↦ packs (ptE s b)) ptE ∧
            pOk s ∧
             true = true ∧
              br = br ∧
               ∃ (h : RT = RT),
                AdtIs (fun (s : RT) (b : Nat) ↦ packs (rtE s b)) rtE ∧
                 pOk (RT.mk s aor capr).t ∧
                  K (frmR [J0] (bodyOf Try.f8) 34)
                   (Sy.mk (SV.raw (u 0) :: (SV.vec 0 ao (List.length bs) cap :: (rawR u 2 (SV.ptr 1 bt 0 :: (SV.ptr 2 br 0 :: (SV.int IntKind.i64 (↑i : Int) :: (SV.ptr 3 b3 0 :: (SV.int IntKind.i64 (0 : Int) :: (SV.int IntKind.i64 (0 : Int) :: (SV.int IntKind.i64 (pKill s x.2 x.3).2 :: (SV.int IntKind.i64 (pKill s x.2 x.3).2 :: (rawR u 13 (SV.ptr 1 bt 0 :: (SV.ptr 3 b3 1 :: (SV.int IntKind.i64 x.2 :: (SV.ptr 3 b3 2 :: (SV.int IntKind.i64 x.3 :: (SV.int IntKind.i64 (pKill s x.2 x.3).2 :: (SV.ptr 2 br 0 :: (SV.ptr 3 b3 1 :: (SV.int IntKind.i64 x.2 :: (SV.ptr 3 b3 2 :: (SV.int IntKind.i64 x.3 :: (SV.int IntKind.i64 (pKill s x.2 x.3).2 :: (rawR u 147 [] 75))))))))))))) 122))))))))) 3)))
                    [Ent.mk (Loc.sl ao cap) (SObj.roL 5 encStep bs (StepP.mk (0 : Int) (0 : Int) (0 : Int) (ByteArray.mk #[]) (ByteArray.mk #[]))),
                     pkA bt ptE (pKill s x.2 x.3).1, pkA br rtE (RT.mk (pKill s x.2 x.3).1 aor capr),
                     Ent.mk (Loc.blk b3) (SObj.cells [SV.int IntKind.i64 x.1, SV.int IntKind.i64 x.2, SV.int IntKind.i64 x.3, SV.str x.4, SV.str x.5] (68 : TypeId))])) ∧
      b3 = b3 ∧
       b3 = b3 ∧
        true = true ∧
         bt = bt ∧
          ∃ (h : PT = PT),
           AdtIs (fun (s : PT) (b : Nat) ↦ packs (ptE s b)) ptE ∧
            pOk s ∧
             true = true ∧
              br = br ∧
               ∃ (h : RT = RT),
                AdtIs (fun (s : RT) (b : Nat) ↦ packs (rtE s b)) rtE ∧
                 pOk (RT.mk s aor capr).t ∧
                  K (frmR [J0] (bodyOf Try.f8) 34)
                   (Sy.mk (SV.raw (u 0) :: (SV.vec 0 ao (List.length bs) cap :: (rawR u 2 (SV.ptr 1 bt 0 :: (SV.ptr 2 br 0 :: (SV.int IntKind.i64 (↑i : Int) :: (SV.ptr 3 b3 0 :: (SV.int IntKind.i64 (0 : Int) :: (SV.int IntKind.i64 (0 : Int) :: (SV.int IntKind.i64 (pKill s x.2 x.3).2 :: (SV.int IntKind.i64 (pKill s x.2 x.3).2 :: (rawR u 13 (SV.ptr 1 bt 0 :: (SV.ptr 3 b3 1 :: (SV.int IntKind.i64 x.2 :: (SV.ptr 3 b3 2 :: (SV.int IntKind.i64 x.3 :: (SV.int IntKind.i64 (pKill s x.2 x.3).2 :: (SV.ptr 2 br 0 :: (SV.ptr 3 b3 1 :: (SV.int IntKind.i64 x.2 :: (SV.ptr 3 b3 2 :: (SV.int IntKind.i64 x.3 :: (SV.int IntKind.i64 (pKill s x.2 x.3).2 :: (rawR u 147 [] 75))))))))))))) 122))))))))) 3)))
                    [Ent.mk (Loc.sl ao cap) (SObj.roL 5 encStep bs (StepP.mk (0 : Int) (0 : Int) (0 : Int) (ByteArray.mk #[]) (ByteArray.mk #[]))),
                     pkA bt ptE (pKill s x.2 x.3).1, pkA br rtE (RT.mk (pKill s x.2 x.3).1 aor capr),
                     Ent.mk (Loc.blk b3) (SObj.cells [SV.int IntKind.i64 x.1, SV.int IntKind.i64 x.2, SV.int IntKind.i64 x.3, SV.str x.4, SV.str x.5] (68 : TypeId))])) ∧
     (b3 = b3 ∧
      (b3 = b3 ∧
       (true = true ∧
        bt = bt ∧
         ∃ (h : PT = PT),
          AdtIs (fun (s : PT) (b : Nat) ↦ packs (ptE s b)) ptE ∧
           pOk s ∧
            b3 = b3 ∧
             true = true ∧
              br = br ∧
               ∃ (h : RT = RT),
                AdtIs (fun (s : RT) (b : Nat) ↦ packs (rtE s b)) rtE ∧
                 pOk (RT.mk s aor capr).t ∧
                  K (frmR [J0] (bodyOf Try.f8) 34)
                   (Sy.mk (SV.raw (u 0) :: (SV.vec 0 ao (List.length bs) cap :: (rawR u 2 (SV.ptr 1 bt 0 :: (SV.ptr 2 br 0 :: (SV.int IntKind.i64 (↑i : Int) :: (SV.ptr 3 b3 0 :: (SV.int IntKind.i64 (0 : Int) :: (SV.int IntKind.i64 (0 : Int) :: (SV.int IntKind.i64 (pKill s x.2 x.3).2 :: (SV.int IntKind.i64 (pKill s x.2 x.3).2 :: (rawR u 13 (SV.ptr 1 bt 0 :: (SV.ptr 3 b3 1 :: (SV.int IntKind.i64 x.2 :: (SV.ptr 3 b3 2 :: (SV.int IntKind.i64 x.3 :: (SV.int IntKind.i64 (pKill s x.2 x.3).2 :: (SV.ptr 2 br 0 :: (SV.ptr 3 b3 1 :: (SV.int IntKind.i64 x.2 :: (SV.ptr 3 b3 2 :: (SV.int IntKind.i64 x.3 :: (SV.int IntKind.i64 (pKill s x.2 x.3).2 :: (rawR u 147 [] 75))))))))))))) 122))))))))) 3)))
                    [Ent.mk (Loc.sl ao cap) (SObj.roL 5 encStep bs (StepP.mk (0 : Int) (0 : Int) (0 : Int) (ByteArray.mk #[]) (ByteArray.mk #[]))),
                     pkA bt ptE (pKill s x.2 x.3).1, pkA br rtE (RT.mk (pKill s x.2 x.3).1 aor capr),
                     Ent.mk (Loc.blk b3) (SObj.cells [SV.int IntKind.i64 x.1, SV.int IntKind.i64 x.2, SV.int IntKind.i64 x.3, SV.str x.4, SV.str x.5] (68 : TypeId))])) ∧
        b3 = b3 ∧
         true = true ∧
          bt = bt ∧
           ∃ (h : PT = PT),
            AdtIs (fun (s : PT) (b : Nat) ↦ packs (ptE s b)) ptE ∧
             pOk s ∧
              true = true ∧
               br = br ∧
                ∃ (h : RT = RT),
                 AdtIs (fun (s : RT) (b : Nat) ↦ packs (rtE s b)) rtE ∧
                  pOk (RT.mk s aor capr).t ∧
                   K (frmR [J0] (bodyOf Try.f8) 34)
                    (Sy.mk (SV.raw (u 0) :: (SV.vec 0 ao (List.length bs) cap :: (rawR u 2 (SV.ptr 1 bt 0 :: (SV.ptr 2 br 0 :: (SV.int IntKind.i64 (↑i : Int) :: (SV.ptr 3 b3 0 :: (SV.int IntKind.i64 (0 : Int) :: (SV.int IntKind.i64 (0 : Int) :: (SV.int IntKind.i64 (pKill s x.2 x.3).2 :: (SV.int IntKind.i64 (pKill s x.2 x.3).2 :: (rawR u 13 (SV.ptr 1 bt 0 :: (SV.ptr 3 b3 1 :: (SV.int IntKind.i64 x.2 :: (SV.ptr 3 b3 2 :: (SV.int IntKind.i64 x.3 :: (SV.int IntKind.i64 (pKill s x.2 x.3).2 :: (SV.ptr 2 br 0 :: (SV.ptr 3 b3 1 :: (SV.int IntKind.i64 x.2 :: (SV.ptr 3 b3 2 :: (SV.int IntKind.i64 x.3 :: (SV.int IntKind.i64 (pKill s x.2 x.3).2 :: (rawR u 147 [] 75))))))))))))) 122))))))))) 3)))
                     [Ent.mk (Loc.sl ao cap) (SObj.roL 5 encStep bs (StepP.mk (0 : Int) (0 : Int) (0 : Int) (ByteArray.mk #[]) (ByteArray.mk #[]))),
                      pkA bt ptE (pKill s x.2 x.3).1, pkA br rtE (RT.mk (pKill s x.2 x.3).1 aor capr),
                      Ent.mk (Loc.blk b3) (SObj.cells [SV.int IntKind.i64 x.1, SV.int IntKind.i64 x.2, SV.int IntKind.i64 x.3, SV.str x.4, SV.str x.5] (68 : TypeId))])) ∧
       b3 = b3 ∧
        b3 = b3 ∧
         true = true ∧
          bt = bt ∧
           ∃ (h : PT = PT),
            AdtIs (fun (s : PT) (b : Nat) ↦ packs (ptE s b)) ptE ∧
             pOk s ∧
              true = true ∧
               br = br ∧
                ∃ (h : RT = RT),
                 AdtIs (fun (s : RT) (b : Nat) ↦ packs (rtE s b)) rtE ∧
                  pOk (RT.mk s aor capr).t ∧
                   K (frmR [J0] (bodyOf Try.f8) 34)
                    (Sy.mk (SV.raw (u 0) :: (SV.vec 0 ao (List.length bs) cap :: (rawR u 2 (SV.ptr 1 bt 0 :: (SV.ptr 2 br 0 :: (SV.int IntKind.i64 (↑i : Int) :: (SV.ptr 3 b3 0 :: (SV.int IntKind.i64 (0 : Int) :: (SV.int IntKind.i64 (0 : Int) :: (SV.int IntKind.i64 (pKill s x.2 x.3).2 :: (SV.int IntKind.i64 (pKill s x.2 x.3).2 :: (rawR u 13 (SV.ptr 1 bt 0 :: (SV.ptr 3 b3 1 :: (SV.int IntKind.i64 x.2 :: (SV.ptr 3 b3 2 :: (SV.int IntKind.i64 x.3 :: (SV.int IntKind.i64 (pKill s x.2 x.3).2 :: (SV.ptr 2 br 0 :: (SV.ptr 3 b3 1 :: (SV.int IntKind.i64 x.2 :: (SV.ptr 3 b3 2 :: (SV.int IntKind.i64 x.3 :: (SV.int IntKind.i64 (pKill s x.2 x.3).2 :: (rawR u 147 [] 75))))))))))))) 122))))))))) 3)))
                     [Ent.mk (Loc.sl ao cap) (SObj.roL 5 encStep bs (StepP.mk (0 : Int) (0 : Int) (0 : Int) (ByteArray.mk #[]) (ByteArray.mk #[]))),
                      pkA bt ptE (pKill s x.2 x.3).1, pkA br rtE (RT.mk (pKill s x.2 x.3).1 aor capr),
                      Ent.mk (Loc.blk b3) (SObj.cells [SV.int IntKind.i64 x.1, SV.int IntKind.i64 x.2, SV.int IntKind.i64 x.3, SV.str x.4, SV.str x.5] (68 : TypeId))])) ∧
      b3 = b3 ∧
       (b3 = b3 ∧
        b3 = b3 ∧
         true = true ∧
          bt = bt ∧
           ∃ (h : PT = PT),
            AdtIs (fun (s : PT) (b : Nat) ↦ packs (ptE s b)) ptE ∧
             pOk s ∧
              true = true ∧
               br = br ∧
                ∃ (h : RT = RT),
                 AdtIs (fun (s : RT) (b : Nat) ↦ packs (rtE s b)) rtE ∧
                  pOk (RT.mk s aor capr).t ∧
                   K (frmR [J0] (bodyOf Try.f8) 34)
                    (Sy.mk (SV.raw (u 0) :: (SV.vec 0 ao (List.length bs) cap :: (rawR u 2 (SV.ptr 1 bt 0 :: (SV.ptr 2 br 0 :: (SV.int IntKind.i64 (↑i : Int) :: (SV.ptr 3 b3 0 :: (SV.int IntKind.i64 (0 : Int) :: (SV.int IntKind.i64 (0 : Int) :: (SV.int IntKind.i64 (pKill s x.2 x.3).2 :: (SV.int IntKind.i64 (pKill s x.2 x.3).2 :: (rawR u 13 (SV.ptr 1 bt 0 :: (SV.ptr 3 b3 1 :: (SV.int IntKind.i64 x.2 :: (SV.ptr 3 b3 2 :: (SV.int IntKind.i64 x.3 :: (SV.int IntKind.i64 (pKill s x.2 x.3).2 :: (SV.ptr 2 br 0 :: (SV.ptr 3 b3 1 :: (SV.int IntKind.i64 x.2 :: (SV.ptr 3 b3 2 :: (SV.int IntKind.i64 x.3 :: (SV.int IntKind.i64 (pKill s x.2 x.3).2 :: (rawR u 147 [] 75))))))))))))) 122))))))))) 3)))
                     [Ent.mk (Loc.sl ao cap) (SObj.roL 5 encStep bs (StepP.mk (0 : Int) (0 : Int) (0 : Int) (ByteArray.mk #[]) (ByteArray.mk #[]))),
                      pkA bt ptE (pKill s x.2 x.3).1, pkA br rtE (RT.mk (pKill s x.2 x.3).1 aor capr),
                      Ent.mk (Loc.blk b3) (SObj.cells [SV.int IntKind.i64 x.1, SV.int IntKind.i64 x.2, SV.int IntKind.i64 x.3, SV.str x.4, SV.str x.5] (68 : TypeId))])) ∧
        b3 = b3 ∧
         b3 = b3 ∧
          true = true ∧
           bt = bt ∧
            ∃ (h : PT = PT),
             AdtIs (fun (s : PT) (b : Nat) ↦ packs (ptE s b)) ptE ∧
              pOk s ∧
               true = true ∧
                br = br ∧
                 ∃ (h : RT = RT),
                  AdtIs (fun (s : RT) (b : Nat) ↦ packs (rtE s b)) rtE ∧
                   pOk (RT.mk s aor capr).t ∧
                    K (frmR [J0] (bodyOf Try.f8) 34)
                     (Sy.mk (SV.raw (u 0) :: (SV.vec 0 ao (List.length bs) cap :: (rawR u 2 (SV.ptr 1 bt 0 :: (SV.ptr 2 br 0 :: (SV.int IntKind.i64 (↑i : Int) :: (SV.ptr 3 b3 0 :: (SV.int IntKind.i64 (0 : Int) :: (SV.int IntKind.i64 (0 : Int) :: (SV.int IntKind.i64 (pKill s x.2 x.3).2 :: (SV.int IntKind.i64 (pKill s x.2 x.3).2 :: (rawR u 13 (SV.ptr 1 bt 0 :: (SV.ptr 3 b3 1 :: (SV.int IntKind.i64 x.2 :: (SV.ptr 3 b3 2 :: (SV.int IntKind.i64 x.3 :: (SV.int IntKind.i64 (pKill s x.2 x.3).2 :: (SV.ptr 2 br 0 :: (SV.ptr 3 b3 1 :: (SV.int IntKind.i64 x.2 :: (SV.ptr 3 b3 2 :: (SV.int IntKind.i64 x.3 :: (SV.int IntKind.i64 (pKill s x.2 x.3).2 :: (rawR u 147 [] 75))))))))))))) 122))))))))) 3)))
                      [Ent.mk (Loc.sl ao cap) (SObj.roL 5 encStep bs (StepP.mk (0 : Int) (0 : Int) (0 : Int) (ByteArray.mk #[]) (ByteArray.mk #[]))),
                       pkA bt ptE (pKill s x.2 x.3).1, pkA br rtE (RT.mk (pKill s x.2 x.3).1 aor capr),
                       Ent.mk (Loc.blk b3) (SObj.cells [SV.int IntKind.i64 x.1, SV.int IntKind.i64 x.2, SV.int IntKind.i64 x.3, SV.str x.4, SV.str x.5] (68 : TypeId))])) := by kernel_rfl


theorem pp_34 (K : List Frm → Sy → Prop) (N : List Ent → SV → Prop) (J0 : Act → World → Prop) (ao : Option Addr) (cap : Nat) (bs : List StepP) (bt br : Nat) (s : PT) (aor : Option Addr) (capr : Nat) (i : Nat) (x : StepP) (b3 : Nat) (n e : Int) (u : Nat → Value) : (run Try.prog ppT false [] K (retP Try.prog Try.f8.results.toList N) 3000 (frmR [J0] (bodyOf Try.f8) 34) ⟨mkT u 222 0 [(1, .vec 0 ao bs.length cap), (5, .ptr 1 bt 0), (6, .ptr 2 br 0), (7, .int .i64 (i : Int)), (8, .ptr 3 b3 0), (9, .int .i64 n), (10, .int .i64 n), (11, .int .i64 e), (12, .int .i64 e)], [⟨.sl ao cap, .roL 5 encStep bs StepP.zero⟩, pkA bt ptE s, pkA br rtE ⟨s, aor, capr⟩, ⟨.blk b3, .cells (encStep x) 68⟩]⟩) = (
b3 = b3 ∧
 true = true ∧
  bt = bt ∧
   ∃ (h : PT = PT),
    AdtIs (fun (s : PT) (b : Nat) ↦ packs (ptE s b)) ptE ∧
     pOk s ∧
      ∀ (b : Nat),
       (b = b ∧ true = true ∧ 6 = 6 ∧ 6 ≤ 6) ∧
        b3 = b3 ∧
         true = true ∧
          br = br ∧
           ∃ (h : RT = RT),
            AdtIs (fun (s : RT) (b : Nat) ↦ packs (rtE s b)) rtE ∧
             pOk (RT.mk s aor capr).t ∧
              ∀ (b_1 : Nat),
               (b_1 = b_1 ∧ true = true ∧ 6 = 6 ∧ 6 ≤ 6) ∧
                b3 = b3 ∧
                 true = true ∧
                  bt = bt ∧
                   ∃ (h : PT = PT),
                    AdtIs (fun (s : PT) (b : Nat) ↦ packs (ptE s b)) ptE ∧
                     pOk s ∧
                      b3 = b3 ∧
                       true = true ∧
                        br = br ∧
                         ∃ (h : RT = RT),
                          AdtIs (fun (s : RT) (b : Nat) ↦ packs (rtE s b)) rtE ∧
                           pOk (RT.mk s aor capr).t ∧
                            match n != n with
                            | true =>
                             N
                              [Ent.mk (Loc.sl ao cap) (SObj.roL 5 encStep bs (StepP.mk (0 : Int) (0 : Int) (0 : Int) (ByteArray.mk #[]) (ByteArray.mk #[]))),
                               pkA bt ptE s, pkA br rtE (RT.mk s aor capr),
                               Ent.mk (Loc.blk b3)
                                (SObj.cells [SV.int IntKind.i64 x.1, SV.int IntKind.i64 x.2, SV.int IntKind.i64 x.3, SV.str x.4, SV.str x.5] (68 : TypeId)),
                               Ent.mk (Loc.blk b)
                                (SObj.cells
                                 [SV.int IntKind.i64 (pGet s x.2).1, SV.int IntKind.i64 (pGet s x.2).2, SV.str (pGet s x.2).3, SV.bool (pGet s x.2).4,
                                  SV.int IntKind.i64 (pGet s x.2).5, SV.str (pGet s x.2).6]
                                 45),
                               Ent.mk (Loc.blk b_1)
                                (SObj.cells
                                 [SV.int IntKind.i64 (pGet s x.2).1, SV.int IntKind.i64 (pGet s x.2).2, SV.str (pGet s x.2).3, SV.bool (pGet s x.2).4,
                                  SV.int IntKind.i64 (pGet s x.2).5, SV.str (pGet s x.2).6]
                                 45)]
                              (SV.bool false)
                            | false =>
                             match e != e with
                             | true =>
                              N
                               [Ent.mk (Loc.sl ao cap) (SObj.roL 5 encStep bs (StepP.mk (0 : Int) (0 : Int) (0 : Int) (ByteArray.mk #[]) (ByteArray.mk #[]))),
                                pkA bt ptE s, pkA br rtE (RT.mk s aor capr),
                                Ent.mk (Loc.blk b3)
                                 (SObj.cells [SV.int IntKind.i64 x.1, SV.int IntKind.i64 x.2, SV.int IntKind.i64 x.3, SV.str x.4, SV.str x.5] (68 : TypeId)),
                                Ent.mk (Loc.blk b)
                                 (SObj.cells
                                  [SV.int IntKind.i64 (pGet s x.2).1, SV.int IntKind.i64 (pGet s x.2).2, SV.str (pGet s x.2).3, SV.bool (pGet s x.2).4,
                                   SV.int IntKind.i64 (pGet s x.2).5, SV.str (pGet s x.2).6]
                                  45),
                                Ent.mk (Loc.blk b_1)
                                 (SObj.cells
                                  [SV.int IntKind.i64 (pGet s x.2).1, SV.int IntKind.i64 (pGet s x.2).2, SV.str (pGet s x.2).3, SV.bool (pGet s x.2).4,
                                   SV.int IntKind.i64 (pGet s x.2).5, SV.str (pGet s x.2).6]
                                  45)]
                               (SV.bool false)
                             | false =>
                              (b = b ∧ 6 = 6) ∧
                               (b_1 = b_1 ∧ 6 = 6) ∧
                                match
                                 !((pGet s x.2).1 == (pGet s x.2).1 &&
                                  ((pGet s x.2).2 == (pGet s x.2).2 &&
                                   (sEq (pGet s x.2).3 (pGet s x.2).3 &&
                                    ((pGet s x.2).4 == (pGet s x.2).4 &&
                                     ((pGet s x.2).5 == (pGet s x.2).5 && (sEq (pGet s x.2).6 (pGet s x.2).6 && true)))))) with
                                | true =>
                                 N
                                  [Ent.mk (Loc.sl ao cap)
                                   (SObj.roL 5 encStep bs (StepP.mk (0 : Int) (0 : Int) (0 : Int) (ByteArray.mk #[]) (ByteArray.mk #[]))),
                                   pkA bt ptE s, pkA br rtE (RT.mk s aor capr),
                                   Ent.mk (Loc.blk b3)
                                    (SObj.cells [SV.int IntKind.i64 x.1, SV.int IntKind.i64 x.2, SV.int IntKind.i64 x.3, SV.str x.4, SV.str x.5] (68 : TypeId)),
                                   Ent.mk (Loc.blk b)
                                    (SObj.cells
                                     [SV.int IntKind.i64 (pGet s x.2).1, SV.int IntKind.i64 (pGet s x.2).2, SV.str (pGet s x.2).3, SV.bool (pGet s x.2).4,
                                      SV.int IntKind.i64 (pGet s x.2).5, SV.str (pGet s x.2).6]
                                     45),
                                   Ent.mk (Loc.blk b_1)
                                    (SObj.cells
                                     [SV.int IntKind.i64 (pGet s x.2).1, SV.int IntKind.i64 (pGet s x.2).2, SV.str (pGet s x.2).3, SV.bool (pGet s x.2).4,
                                      SV.int IntKind.i64 (pGet s x.2).5, SV.str (pGet s x.2).6]
                                     45)]
                                  (SV.bool false)
                                | false =>
                                 match !pHas s x.2 == pHas s x.2 with
                                 | true =>
                                  N
                                   [Ent.mk (Loc.sl ao cap)
                                    (SObj.roL 5 encStep bs (StepP.mk (0 : Int) (0 : Int) (0 : Int) (ByteArray.mk #[]) (ByteArray.mk #[]))),
                                    pkA bt ptE s, pkA br rtE (RT.mk s aor capr),
                                    Ent.mk (Loc.blk b3)
                                     (SObj.cells [SV.int IntKind.i64 x.1, SV.int IntKind.i64 x.2, SV.int IntKind.i64 x.3, SV.str x.4, SV.str x.5] (68 : TypeId)),
                                    Ent.mk (Loc.blk b)
                                     (SObj.cells
                                      [SV.int IntKind.i64 (pGet s x.2).1, SV.int IntKind.i64 (pGet s x.2).2, SV.str (pGet s x.2).3, SV.bool (pGet s x.2).4,
                                       SV.int IntKind.i64 (pGet s x.2).5, SV.str (pGet s x.2).6]
                                      45),
                                    Ent.mk (Loc.blk b_1)
                                     (SObj.cells
                                      [SV.int IntKind.i64 (pGet s x.2).1, SV.int IntKind.i64 (pGet s x.2).2, SV.str (pGet s x.2).3, SV.bool (pGet s x.2).4,
                                       SV.int IntKind.i64 (pGet s x.2).5, SV.str (pGet s x.2).6]
                                      45)]
                                   (SV.bool false)
                                 | false =>
                                  match !(pGet s x.2).7 == (pGet s x.2).7 with
                                  | true =>
                                   N
                                    [Ent.mk (Loc.sl ao cap)
                                     (SObj.roL 5 encStep bs (StepP.mk (0 : Int) (0 : Int) (0 : Int) (ByteArray.mk #[]) (ByteArray.mk #[]))),
                                     pkA bt ptE s, pkA br rtE (RT.mk s aor capr),
                                     Ent.mk (Loc.blk b3)
                                      (SObj.cells [SV.int IntKind.i64 x.1, SV.int IntKind.i64 x.2, SV.int IntKind.i64 x.3, SV.str x.4, SV.str x.5] (68 : TypeId)),
                                     Ent.mk (Loc.blk b)
                                      (SObj.cells
                                       [SV.int IntKind.i64 (pGet s x.2).1, SV.int IntKind.i64 (pGet s x.2).2, SV.str (pGet s x.2).3, SV.bool (pGet s x.2).4,
                                        SV.int IntKind.i64 (pGet s x.2).5, SV.str (pGet s x.2).6]
                                       45),
                                     Ent.mk (Loc.blk b_1)
                                      (SObj.cells
                                       [SV.int IntKind.i64 (pGet s x.2).1, SV.int IntKind.i64 (pGet s x.2).2, SV.str (pGet s x.2).3, SV.bool (pGet s x.2).4,
                                        SV.int IntKind.i64 (pGet s x.2).5, SV.str (pGet s x.2).6]
                                       45)]
                                    (SV.bool false)
                                  | false =>
                                   match !(pGet s x.2).8 == (pGet s x.2).8 with
                                   | true =>
                                    N
                                     [Ent.mk (Loc.sl ao cap)
                                      (SObj.roL 5 encStep bs (StepP.mk (0 : Int) (0 : Int) (0 : Int) (ByteArray.mk #[]) (ByteArray.mk #[]))),
                                      pkA bt ptE s, pkA br rtE (RT.mk s aor capr),
                                      Ent.mk (Loc.blk b3)
                                       (SObj.cells [SV.int IntKind.i64 x.1, SV.int IntKind.i64 x.2, SV.int IntKind.i64 x.3, SV.str x.4, SV.str x.5]
                                        (68 : TypeId)),
                                      Ent.mk (Loc.blk b)
                                       (SObj.cells
                                        [SV.int IntKind.i64 (pGet s x.2).1, SV.int IntKind.i64 (pGet s x.2).2, SV.str (pGet s x.2).3, SV.bool (pGet s x.2).4,
                                         SV.int IntKind.i64 (pGet s x.2).5, SV.str (pGet s x.2).6]
                                        45),
                                      Ent.mk (Loc.blk b_1)
                                       (SObj.cells
                                        [SV.int IntKind.i64 (pGet s x.2).1, SV.int IntKind.i64 (pGet s x.2).2, SV.str (pGet s x.2).3, SV.bool (pGet s x.2).4,
                                         SV.int IntKind.i64 (pGet s x.2).5, SV.str (pGet s x.2).6]
                                        45)]
                                     (SV.bool false)
                                   | false =>
                                    true = true ∧
                                     bt = bt ∧
                                      ∃ (h : PT = PT),
                                       AdtIs (fun (s : PT) (b : Nat) ↦ packs (ptE s b)) ptE ∧
                                        pOk s ∧
                                         true = true ∧
                                          br = br ∧
                                           ∃ (h : RT = RT),
                                            AdtIs (fun (s : RT) (b : Nat) ↦ packs (rtE s b)) rtE ∧
                                             pOk (RT.mk s aor capr).t ∧
                                              match (↑(List.length s.2) : Int) - (1 : Int) != (↑(List.length s.2) : Int) - (1 : Int) with
                                              | true =>
                                               N
                                                [Ent.mk (Loc.sl ao cap)
                                                 (SObj.roL 5 encStep bs
                                                  (StepP.mk (0 : Int) (0 : Int) (0 : Int) (ByteArray.mk #[]) (ByteArray.mk #[]))),
                                                 pkA bt ptE s, pkA br rtE (RT.mk s aor capr),
                                                 Ent.mk (Loc.blk b3)
                                                  (SObj.cells
                                                   [SV.int IntKind.i64 x.1, SV.int IntKind.i64 x.2, SV.int IntKind.i64 x.3, SV.str x.4, SV.str x.5]
                                                   (68 : TypeId)),
                                                 Ent.mk (Loc.blk b)
                                                  (SObj.cells
                                                   [SV.int IntKind.i64 (pGet s x.2).1, SV.int IntKind.i64 (pGet s x.2).2, SV.str (pGet s x.2).3,
                                                    SV.bool (pGet s x.2).4, SV.int IntKind.i64 (pGet s x.2).5, SV.str (pGet s x.2).6]
                                                   45),
                                                 Ent.mk (Loc.blk b_1)
                                                  (SObj.cells
                                                   [SV.int IntKind.i64 (pGet s x.2).1, SV.int IntKind.i64 (pGet s x.2).2, SV.str (pGet s x.2).3,
                                                    SV.bool (pGet s x.2).4, SV.int IntKind.i64 (pGet s x.2).5, SV.str (pGet s x.2).6]
                                                   45)]
                                                (SV.bool false)
                                              | false =>
                                               true = true ∧
                                                bt = bt ∧
                                                 ∃ (h : PT = PT),
                                                  AdtIs (fun (s : PT) (b : Nat) ↦ packs (ptE s b)) ptE ∧
                                                   (pOk (cast h s) ∧ List.length s.2 ≤ 200) ∧
                                                    ∀ (ao_1 : Option Addr) (cap_1 : Nat),
                                                     true = true ∧
                                                      br = br ∧
                                                       ∃ (h : RT = RT),
                                                        AdtIs (fun (s : RT) (b : Nat) ↦ packs (rtE s b)) rtE ∧
                                                         pOk (cast h (RT.mk s aor capr)).t ∧
                                                          ∀ (ao_2 : Option Addr) (cap_2 : Nat),
                                                           true = true ∧
                                                            ∃ (xs : List PR),
                                                             some
                                                              (Ent.mk (Loc.sl ao_1 cap_1)
                                                               (SObj.vecL (45 : TypeId) 6 encP6
                                                                (upto (0 : Int) (List.map (fun (x : Nat × PR) ↦ x.snd) s.2))
                                                                (PR.mk (0 : Int) (0 : Int) (ByteArray.mk #[]) false (0 : Int)
                                                                 (ByteArray.mk #[]) false false))) =
                                                              some
                                                               (Ent.mk (Loc.sl ao_1 cap_1)
                                                                (SObj.vecL (45 : TypeId) 6 encP6 xs
                                                                 (PR.mk (0 : Int) (0 : Int) (ByteArray.mk #[]) false (0 : Int)
                                                                  (ByteArray.mk #[]) false false))) ∧
                                                              some
                                                               (Ent.mk (Loc.sl ao_2 cap_2)
                                                                (SObj.vecL (45 : TypeId) 6 encP6 (rL s)
                                                                 (PR.mk (0 : Int) (0 : Int) (ByteArray.mk #[]) false (0 : Int)
                                                                  (ByteArray.mk #[]) false false))) =
                                                               some
                                                                (Ent.mk (Loc.sl ao_2 cap_2)
                                                                 (SObj.vecL (45 : TypeId) 6 encP6 xs
                                                                  (PR.mk (0 : Int) (0 : Int) (ByteArray.mk #[]) false (0 : Int)
                                                                   (ByteArray.mk #[]) false false))) ∧
                                                               (false = false ∧
                                                                List.length
                                                                 (upto (0 : Int) (List.map (fun (x : Nat × PR) ↦ x.snd) s.2)) =
                                                                 List.length xs ∧
                                                                 List.length (rL s) = List.length xs ∧
                                                                  List.length xs ≤ 1000000) ∧
                                                                K
                                                                 (Frm.loop J0 ::
                                                                  Frm.blk 0 ::
                                                                   frm [] (bodyOf Try.f8)
                                                                    [1, 1, 1, 1, 1] [])
                                                                 (Sy.mk (SV.raw (u 0) :: (SV.vec 0 ao (List.length bs) cap :: (rawR u 2 (SV.ptr 1 bt 0 :: (SV.ptr 2 br 0 :: (SV.int IntKind.i64 (IntKind.wrap IntKind.i64 ((↑i : Int) + (1 : Int))) :: (SV.ptr 3 b3 0 :: (SV.int IntKind.i64 n :: (SV.int IntKind.i64 n :: (SV.int IntKind.i64 e :: (SV.int IntKind.i64 e :: (rawR u 13 (SV.ptr 4 b 0 :: (SV.bool (pHas s x.2) :: (SV.ptr 5 b_1 0 :: (SV.bool (pHas s x.2) :: (SV.bool (pGet s x.2).7 :: (SV.bool (pGet s x.2).8 :: (SV.bool (pGet s x.2).7 :: (SV.bool (pGet s x.2).8 :: (rawR u 25 (SV.int IntKind.i64 (↑i : Int) :: (SV.int IntKind.i64 (IntKind.wrap IntKind.i64 ((↑i : Int) + (1 : Int))) :: (rawR u 40 (SV.tuple [SV.agg [SV.int IntKind.i64 (pGet s x.2).1, SV.int IntKind.i64 (pGet s x.2).2, SV.str (pGet s x.2).3, SV.bool (pGet s x.2).4, SV.int IntKind.i64 (pGet s x.2).5, SV.str (pGet s x.2).6], SV.bool (pHas s x.2)] :: (SV.ptr 1 bt 0 :: (SV.ptr 3 b3 1 :: (SV.int IntKind.i64 x.2 :: (SV.tuple [SV.agg [SV.int IntKind.i64 (pGet s x.2).1, SV.int IntKind.i64 (pGet s x.2).2, SV.str (pGet s x.2).3, SV.bool (pGet s x.2).4, SV.int IntKind.i64 (pGet s x.2).5, SV.str (pGet s x.2).6], SV.bool (pHas s x.2)] :: (SV.agg [SV.int IntKind.i64 (pGet s x.2).1, SV.int IntKind.i64 (pGet s x.2).2, SV.str (pGet s x.2).3, SV.bool (pGet s x.2).4, SV.int IntKind.i64 (pGet s x.2).5, SV.str (pGet s x.2).6] :: (SV.bool (pHas s x.2) :: (SV.tuple [SV.agg [SV.int IntKind.i64 (pGet s x.2).1, SV.int IntKind.i64 (pGet s x.2).2, SV.str (pGet s x.2).3, SV.bool (pGet s x.2).4, SV.int IntKind.i64 (pGet s x.2).5, SV.str (pGet s x.2).6], SV.bool (pHas s x.2)] :: (SV.ptr 2 br 0 :: (SV.ptr 3 b3 1 :: (SV.int IntKind.i64 x.2 :: (SV.tuple [SV.agg [SV.int IntKind.i64 (pGet s x.2).1, SV.int IntKind.i64 (pGet s x.2).2, SV.str (pGet s x.2).3, SV.bool (pGet s x.2).4, SV.int IntKind.i64 (pGet s x.2).5, SV.str (pGet s x.2).6], SV.bool (pHas s x.2)] :: (SV.agg [SV.int IntKind.i64 (pGet s x.2).1, SV.int IntKind.i64 (pGet s x.2).2, SV.str (pGet s x.2).3, SV.bool (pGet s x.2).4, SV.int IntKind.i64 (pGet s x.2).5, SV.str (pGet s x.2).6] :: (SV.bool (pHas s x.2) :: (SV.tuple [SV.bool (pGet s x.2).7, SV.bool (pGet s x.2).8] :: (SV.ptr 1 bt 0 :: (SV.ptr 3 b3 1 :: (SV.int IntKind.i64 x.2 :: (SV.tuple [SV.bool (pGet s x.2).7, SV.bool (pGet s x.2).8] :: (SV.bool (pGet s x.2).7 :: (SV.bool (pGet s x.2).8 :: (SV.tuple [SV.bool (pGet s x.2).7, SV.bool (pGet s x.2).8] :: (SV.ptr 2 br 0 :: (SV.ptr 3 b3 1 :: (SV.int IntKind.i64 x.2 :: (SV.tuple [SV.bool (pGet s x.2).7, SV.bool (pGet s x.2).8] :: (SV.bool (pGet s x.2).7 :: (SV.bool (pGet s x.2).8 :: (SV.int IntKind.i64 n :: (SV.int IntKind.i64 n :: ((SV.bool (n != n)) :: (SV.bool false :: (SV.int IntKind.i64 e :: (SV.int IntKind.i64 e :: ((SV.bool (e != e)) :: ((SV.bool (e != e)) :: (SV.bool false :: (SV.agg [SV.int IntKind.i64 (pGet s x.2).1, SV.int IntKind.i64 (pGet s x.2).2, SV.str (pGet s x.2).3, SV.bool (pGet s x.2).4, SV.int IntKind.i64 (pGet s x.2).5, SV.str (pGet s x.2).6] :: (SV.agg [SV.int IntKind.i64 (pGet s x.2).1, SV.int IntKind.i64 (pGet s x.2).2, SV.str (pGet s x.2).3, SV.bool (pGet s x.2).4, SV.int IntKind.i64 (pGet s x.2).5, SV.str (pGet s x.2).6] :: ((SV.bool !((pGet s x.2).1 == (pGet s x.2).1 && ((pGet s x.2).2 == (pGet s x.2).2 && (sEq (pGet s x.2).3 (pGet s x.2).3 && ((pGet s x.2).4 == (pGet s x.2).4 && ((pGet s x.2).5 == (pGet s x.2).5 && (sEq (pGet s x.2).6 (pGet s x.2).6 && true))))))) :: ((SV.bool !((pGet s x.2).1 == (pGet s x.2).1 && ((pGet s x.2).2 == (pGet s x.2).2 && (sEq (pGet s x.2).3 (pGet s x.2).3 && ((pGet s x.2).4 == (pGet s x.2).4 && ((pGet s x.2).5 == (pGet s x.2).5 && (sEq (pGet s x.2).6 (pGet s x.2).6 && true))))))) :: (SV.bool false :: (SV.bool (pHas s x.2) :: (SV.bool (pHas s x.2) :: ((SV.bool !pHas s x.2 == pHas s x.2) :: ((SV.bool !pHas s x.2 == pHas s x.2) :: (SV.bool false :: (SV.bool (pGet s x.2).7 :: (SV.bool (pGet s x.2).7 :: ((SV.bool !(pGet s x.2).7 == (pGet s x.2).7) :: ((SV.bool !(pGet s x.2).7 == (pGet s x.2).7) :: (SV.bool false :: (SV.bool (pGet s x.2).8 :: (SV.bool (pGet s x.2).8 :: ((SV.bool !(pGet s x.2).8 == (pGet s x.2).8) :: ((SV.bool !(pGet s x.2).8 == (pGet s x.2).8) :: (SV.bool false :: (SV.ptr 1 bt 0 :: (SV.int IntKind.i64 ((↑(List.length s.2) : Int) - (1 : Int)) :: (SV.ptr 2 br 0 :: (SV.int IntKind.i64 ((↑(List.length s.2) : Int) - (1 : Int)) :: ((SV.bool ((↑(List.length s.2) : Int) - (1 : Int) != (↑(List.length s.2) : Int) - (1 : Int))) :: ((SV.bool ((↑(List.length s.2) : Int) - (1 : Int) != (↑(List.length s.2) : Int) - (1 : Int))) :: (SV.bool false :: (SV.ptr 1 bt 0 :: ((SV.vec 6 ao_1 (List.length (upto (0 : Int) (List.map (fun (x : Nat × PR) ↦ x.snd) s.2))) cap_1) :: (SV.ptr 2 br 0 :: (SV.vec 7 ao_2 (List.length (rL s)) cap_2 :: (SV.bool true :: (SV.bool false :: (SV.bool false :: (rawR u 218 [] 4)))))))))))))))))))))))))))))))))))))))))))))))))))))))))))))))))))))))) 107))) 13))))))))) 4))))))))) 3)))
                                                                  [Ent.mk (Loc.sl ao cap)
                                                                   (SObj.roL 5 encStep bs
                                                                    (StepP.mk (0 : Int) (0 : Int) (0 : Int) (ByteArray.mk #[])
                                                                     (ByteArray.mk #[]))),
                                                                   pkA bt ptE s, pkA br rtE (RT.mk s aor capr),
                                                                   Ent.mk (Loc.blk b3)
                                                                    (SObj.cells
                                                                     [SV.int IntKind.i64 x.1, SV.int IntKind.i64 x.2,
                                                                      SV.int IntKind.i64 x.3, SV.str x.4, SV.str x.5]
                                                                     (68 : TypeId)),
                                                                   Ent.mk (Loc.blk b)
                                                                    (SObj.cells
                                                                     [SV.int IntKind.i64 (pGet s x.2).1,
                                                                      SV.int IntKind.i64 (pGet s x.2).2, SV.str (pGet s x.2).3,
                                                                      SV.bool (pGet s x.2).4, SV.int IntKind.i64 (pGet s x.2).5,
                                                                      SV.str (pGet s x.2).6]
                                                                     45),
                                                                   Ent.mk (Loc.blk b_1)
                                                                    (SObj.cells
                                                                     [SV.int IntKind.i64 (pGet s x.2).1,
                                                                      SV.int IntKind.i64 (pGet s x.2).2, SV.str (pGet s x.2).3,
                                                                      SV.bool (pGet s x.2).4, SV.int IntKind.i64 (pGet s x.2).5,
                                                                      SV.str (pGet s x.2).6]
                                                                     45),
                                                                   Ent.mk (Loc.sl ao_1 cap_1)
                                                                    (SObj.vecL (45 : TypeId) 6 encP6
                                                                     (upto (0 : Int) (List.map (fun (x : Nat × PR) ↦ x.snd) s.2))
                                                                     (PR.mk (0 : Int) (0 : Int) (ByteArray.mk #[]) false (0 : Int)
                                                                      (ByteArray.mk #[]) false false)),
                                                                   Ent.mk (Loc.sl ao_2 cap_2)
                                                                    (SObj.vecL (45 : TypeId) 6 encP6 (rL s)
                                                                     (PR.mk (0 : Int) (0 : Int) (ByteArray.mk #[]) false (0 : Int)
                                                                      (ByteArray.mk #[]) false false))])) := by kernel_rfl
end Go.Proofs.Ytihajdkipkfiiaa
