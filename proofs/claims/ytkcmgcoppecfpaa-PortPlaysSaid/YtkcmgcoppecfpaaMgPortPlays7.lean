import Derived.Test.YtkcmgcoppecfpaaMgPortPlays6
set_option linter.unusedVariables false
set_option linter.unusedSimpArgs false
set_option linter.unnecessarySimpa false
set_option maxHeartbeats 0
set_option maxRecDepth 100000
namespace Go.Proofs.Ytkcmgcoppecfpaa
open Go Go.RowKit

theorem pt_start (K : List Frm → Sy → Prop) (N : List Ent → SV → Prop) (ao : Option Addr) (cap : Nat) (bs : List StepP) : (run Try.prog plT false [] K (retP Try.prog Try.f3.results.toList N) 900 [.code (bodyOf Try.f3)] ⟨padTo 208 [.vec 0 ao bs.length cap], [⟨.sl ao cap, .roL 4 encStepP bs StepP.zero⟩]⟩) = (
true = true ∧
 match decide ((↑(List.length bs) : Int) > (120 : Int)) with
 | true => N [Ent.mk (Loc.sl ao cap) (SObj.roL 4 encStepP bs (StepP.mk (0 : Int) (0 : Int) (ByteArray.mk #[]) (ByteArray.mk #[])))] (SV.bool true)
 | false =>
  true = true ∧
   ∀ (b bm : Nat),
    (true = true ∧ true = true) ∧
     true = true ∧
      ∀ (b_1 : Nat),
       K (frm [] (bodyOf Try.f3) [1, 1, 1, 1, 0, 1, 0] [])
        (Sy.mk (SV.vec 0 ao (List.length bs) cap :: (SV.raw (Value.tuple #[]) :: (SV.bool false :: (SV.ptr 1 b 0 :: (SV.ptr 2 b_1 0 :: (SV.int IntKind.i64 (0 : Int) :: (rawE (SV.bool true :: (SV.bool false :: (SV.vec 0 ao (List.length bs) cap :: (SV.int IntKind.i64 (↑(List.length bs) : Int) :: (SV.bool false :: (SV.ptr 1 b 0 :: (SV.agg [SV.raw (Value.slice (@none Addr) 0 0), SV.int IntKind.i64 (0 : Int), SV.raw (Value.slice (@none Addr) 0 0)] :: (SV.ptr 2 b_1 0 :: (rawE [] 176))))))))) 18)))))))
         [Ent.mk (Loc.sl ao cap) (SObj.roL 4 encStepP bs (StepP.mk (0 : Int) (0 : Int) (ByteArray.mk #[]) (ByteArray.mk #[]))),
          pkA b psE (PS.mk bm [] (@none Addr) 0 [] (0 : Int)),
          Ent.mk (Loc.blk b_1)
           (SObj.cells [SV.raw (Value.slice (@none Addr) 0 0), SV.int IntKind.i64 (0 : Int), SV.raw (Value.slice (@none Addr) 0 0)] 30)])) := by kernel_rfl


theorem pt_l1 (K : List Frm → Sy → Prop) (N : List Ent → SV → Prop) (J : Act → World → Prop) (ao : Option Addr) (cap : Nat) (bs : List StepP) (bt br : Nat) (s : PS) (r : RPs) (i : Nat) (u : Nat → Value) : (run Try.prog plT false [13] K (retP Try.prog Try.f3.results.toList N) 900 (frm [J] (bodyOf Try.f3) [1, 1, 1, 1, 0, 1, 0, 0] []) ⟨mkT u 208 0 [(0, .vec 0 ao bs.length cap), (3, .ptr 1 bt 0), (4, .ptr 2 br 0), (5, .int .i64 (i : Int))], [⟨.sl ao cap, .roL 4 encStepP bs StepP.zero⟩, pkA bt psE (s), pkA br rpE (r)]⟩) = (
match decide ((↑i : Int) < (↑(List.length bs) : Int)) with
| true =>
 (ao = ao ∧ cap = cap ∧ List.length bs = List.length bs ∧ (0 : Int) ≤ (↑i : Int) ∧ (↑i : Int) < (↑(List.length bs) : Int)) ∧
  (Addr.blkD ao = Addr.blkD ao ∧ Addr.offD ao = Addr.offD ao ∧ 4 = 4 ∧ Int.toNat (↑i : Int) < List.length bs ∧ 4 = 4) ∧
   ∀ (b : Nat),
    (b = b ∧ true = true ∧ 4 = 4 ∧ 4 ≤ 4) ∧
     b = b ∧
      match decide ((↑(ByteArray.size (List.getD bs (Int.toNat (↑i : Int)) (StepP.mk (0 : Int) (0 : Int) (ByteArray.mk #[]) (ByteArray.mk #[]))).3) : Int) > (100 : Int)) with
      | true =>
       N
        [Ent.mk (Loc.sl ao cap) (SObj.roL 4 encStepP bs (StepP.mk (0 : Int) (0 : Int) (ByteArray.mk #[]) (ByteArray.mk #[]))), pkA bt psE s, pkA br rpE r,
         Ent.mk (Loc.blk b)
          (SObj.cells
           [SV.int IntKind.i64 (List.getD bs (Int.toNat (↑i : Int)) (StepP.mk (0 : Int) (0 : Int) (ByteArray.mk #[]) (ByteArray.mk #[]))).1,
            SV.int IntKind.i64 (List.getD bs (Int.toNat (↑i : Int)) (StepP.mk (0 : Int) (0 : Int) (ByteArray.mk #[]) (ByteArray.mk #[]))).2,
            SV.str (List.getD bs (Int.toNat (↑i : Int)) (StepP.mk (0 : Int) (0 : Int) (ByteArray.mk #[]) (ByteArray.mk #[]))).3,
            SV.str (List.getD bs (Int.toNat (↑i : Int)) (StepP.mk (0 : Int) (0 : Int) (ByteArray.mk #[]) (ByteArray.mk #[]))).4]
           32)]
        (SV.bool true)
      | false =>
       b = b ∧
        match decide ((↑(ByteArray.size (List.getD bs (Int.toNat (↑i : Int)) (StepP.mk (0 : Int) (0 : Int) (ByteArray.mk #[]) (ByteArray.mk #[]))).4) : Int) > (400 : Int)) with
        | true =>
         N
          [Ent.mk (Loc.sl ao cap) (SObj.roL 4 encStepP bs (StepP.mk (0 : Int) (0 : Int) (ByteArray.mk #[]) (ByteArray.mk #[]))), pkA bt psE s, pkA br rpE r,
           Ent.mk (Loc.blk b)
            (SObj.cells
             [SV.int IntKind.i64 (List.getD bs (Int.toNat (↑i : Int)) (StepP.mk (0 : Int) (0 : Int) (ByteArray.mk #[]) (ByteArray.mk #[]))).1,
              SV.int IntKind.i64 (List.getD bs (Int.toNat (↑i : Int)) (StepP.mk (0 : Int) (0 : Int) (ByteArray.mk #[]) (ByteArray.mk #[]))).2,
              SV.str (List.getD bs (Int.toNat (↑i : Int)) (StepP.mk (0 : Int) (0 : Int) (ByteArray.mk #[]) (ByteArray.mk #[]))).3,
              SV.str (List.getD bs (Int.toNat (↑i : Int)) (StepP.mk (0 : Int) (0 : Int) (ByteArray.mk #[]) (ByteArray.mk #[]))).4]
             32)]
          (SV.bool true)
        | false =>
         K (frmR [J] (bodyOf Try.f3) 13)
          (Sy.mk (SV.vec 0 ao (List.length bs) cap :: (SV.raw (u 1) :: (SV.raw (u 2) :: (SV.ptr 1 bt 0 :: (SV.ptr 2 br 0 :: (SV.int IntKind.i64 (↑i : Int) :: (SV.ptr 3 b 0 :: (SV.int IntKind.i64 (0 : Int) :: (SV.int IntKind.i64 (0 : Int) :: (rawR u 9 (SV.int IntKind.i64 (↑i : Int) :: (SV.vec 0 ao (List.length bs) cap :: (SV.int IntKind.i64 (↑(List.length bs) : Int) :: (SV.bool true :: (SV.raw (u 36) :: (SV.raw (u 37) :: (SV.vec 0 ao (List.length bs) cap :: (SV.int IntKind.i64 (↑i : Int) :: (SV.eptr 0 (Addr.blkD ao) (Addr.offD ao) 4 (Int.toNat (↑i : Int)) 0 :: (SV.agg [SV.int IntKind.i64 (List.getD bs (Int.toNat (↑i : Int)) (StepP.mk (0 : Int) (0 : Int) (ByteArray.mk #[]) (ByteArray.mk #[]))).1, SV.int IntKind.i64 (List.getD bs (Int.toNat (↑i : Int)) (StepP.mk (0 : Int) (0 : Int) (ByteArray.mk #[]) (ByteArray.mk #[]))).2, SV.str (List.getD bs (Int.toNat (↑i : Int)) (StepP.mk (0 : Int) (0 : Int) (ByteArray.mk #[]) (ByteArray.mk #[]))).3, SV.str (List.getD bs (Int.toNat (↑i : Int)) (StepP.mk (0 : Int) (0 : Int) (ByteArray.mk #[]) (ByteArray.mk #[]))).4] :: (SV.ptr 3 b 2 :: (SV.str (List.getD bs (Int.toNat (↑i : Int)) (StepP.mk (0 : Int) (0 : Int) (ByteArray.mk #[]) (ByteArray.mk #[]))).3 :: (SV.int IntKind.i64 (↑(ByteArray.size (List.getD bs (Int.toNat (↑i : Int)) (StepP.mk (0 : Int) (0 : Int) (ByteArray.mk #[]) (ByteArray.mk #[]))).3) : Int) :: (SV.bool (decide ((↑(ByteArray.size (List.getD bs (Int.toNat (↑i : Int)) (StepP.mk (0 : Int) (0 : Int) (ByteArray.mk #[]) (ByteArray.mk #[]))).3) : Int) > (100 : Int))) :: (SV.bool false :: (SV.ptr 3 b 3 :: (SV.str (List.getD bs (Int.toNat (↑i : Int)) (StepP.mk (0 : Int) (0 : Int) (ByteArray.mk #[]) (ByteArray.mk #[]))).4 :: (SV.int IntKind.i64 (↑(ByteArray.size (List.getD bs (Int.toNat (↑i : Int)) (StepP.mk (0 : Int) (0 : Int) (ByteArray.mk #[]) (ByteArray.mk #[]))).4) : Int) :: (SV.bool (decide ((↑(ByteArray.size (List.getD bs (Int.toNat (↑i : Int)) (StepP.mk (0 : Int) (0 : Int) (ByteArray.mk #[]) (ByteArray.mk #[]))).4) : Int) > (400 : Int))) :: (SV.bool false :: (rawR u 52 [] 156))))))))))))))))))))) 23))))))))))
           [Ent.mk (Loc.sl ao cap) (SObj.roL 4 encStepP bs (StepP.mk (0 : Int) (0 : Int) (ByteArray.mk #[]) (ByteArray.mk #[]))), pkA bt psE s, pkA br rpE r,
            Ent.mk (Loc.blk b)
             (SObj.cells
              [SV.int IntKind.i64 (List.getD bs (Int.toNat (↑i : Int)) (StepP.mk (0 : Int) (0 : Int) (ByteArray.mk #[]) (ByteArray.mk #[]))).1,
               SV.int IntKind.i64 (List.getD bs (Int.toNat (↑i : Int)) (StepP.mk (0 : Int) (0 : Int) (ByteArray.mk #[]) (ByteArray.mk #[]))).2,
               SV.str (List.getD bs (Int.toNat (↑i : Int)) (StepP.mk (0 : Int) (0 : Int) (ByteArray.mk #[]) (ByteArray.mk #[]))).3,
               SV.str (List.getD bs (Int.toNat (↑i : Int)) (StepP.mk (0 : Int) (0 : Int) (ByteArray.mk #[]) (ByteArray.mk #[]))).4]
              32)])
| false => N [Ent.mk (Loc.sl ao cap) (SObj.roL 4 encStepP bs (StepP.mk (0 : Int) (0 : Int) (ByteArray.mk #[]) (ByteArray.mk #[]))), pkA bt psE s, pkA br rpE r] (SV.bool true)) := by kernel_rfl


theorem pt_13 (K : List Frm → Sy → Prop) (N : List Ent → SV → Prop) (J0 : Act → World → Prop) (ao : Option Addr) (cap : Nat) (bs : List StepP) (bt br : Nat) (s : PS) (r : RPs) (i : Nat) (x : StepP) (b6 : Nat) (u : Nat → Value) : (run Try.prog plT false [19, 21, 25, 31, 38, 14] K (retP Try.prog Try.f3.results.toList N) 900 (frmR [J0] (bodyOf Try.f3) 13) ⟨mkT u 208 0 [(0, .vec 0 ao bs.length cap), (3, .ptr 1 bt 0), (4, .ptr 2 br 0), (5, .int .i64 (i : Int)), (6, .ptr 3 b6 0), (7, .int .i64 0), (8, .int .i64 0)], [⟨.sl ao cap, .roL 4 encStepP bs StepP.zero⟩, pkA bt psE (s), pkA br rpE (r), ⟨.blk b6, .cells (encStepP x) 32⟩]⟩) = (
b6 = b6 ∧
 match x.1 == (0 : Int) with
 | true =>
  K (frmR [J0] (bodyOf Try.f3) 19)
   (Sy.mk (SV.vec 0 ao (List.length bs) cap :: (SV.raw (u 1) :: (SV.raw (u 2) :: (SV.ptr 1 bt 0 :: (SV.ptr 2 br 0 :: (SV.int IntKind.i64 (↑i : Int) :: (SV.ptr 3 b6 0 :: (SV.int IntKind.i64 (0 : Int) :: (SV.int IntKind.i64 (0 : Int) :: (rawR u 9 (SV.ptr 3 b6 0 :: (SV.int IntKind.i64 x.1 :: (rawR u 54 (SV.bool true :: ((SV.bool (x.1 == (0 : Int))) :: (rawR u 74 [] 134))) 18))) 43))))))))))
    [Ent.mk (Loc.sl ao cap) (SObj.roL 4 encStepP bs (StepP.mk (0 : Int) (0 : Int) (ByteArray.mk #[]) (ByteArray.mk #[]))), pkA bt psE s, pkA br rpE r,
     Ent.mk (Loc.blk b6) (SObj.cells [SV.int IntKind.i64 x.1, SV.int IntKind.i64 x.2, SV.str x.3, SV.str x.4] (32 : TypeId))])
 | false =>
  match x.1 == (1 : Int) with
  | true =>
   K (frmR [J0] (bodyOf Try.f3) 21)
    (Sy.mk (SV.vec 0 ao (List.length bs) cap :: (SV.raw (u 1) :: (SV.raw (u 2) :: (SV.ptr 1 bt 0 :: (SV.ptr 2 br 0 :: (SV.int IntKind.i64 (↑i : Int) :: (SV.ptr 3 b6 0 :: (SV.int IntKind.i64 (0 : Int) :: (SV.int IntKind.i64 (0 : Int) :: (rawR u 9 (SV.ptr 3 b6 0 :: (SV.int IntKind.i64 x.1 :: (rawR u 54 (SV.bool false :: ((SV.bool (x.1 == (0 : Int))) :: (rawR u 74 (SV.bool true :: ((SV.bool (x.1 == (1 : Int))) :: (rawR u 84 [] 124))) 8))) 18))) 43))))))))))
     [Ent.mk (Loc.sl ao cap) (SObj.roL 4 encStepP bs (StepP.mk (0 : Int) (0 : Int) (ByteArray.mk #[]) (ByteArray.mk #[]))), pkA bt psE s, pkA br rpE r,
      Ent.mk (Loc.blk b6) (SObj.cells [SV.int IntKind.i64 x.1, SV.int IntKind.i64 x.2, SV.str x.3, SV.str x.4] (32 : TypeId))])
  | false =>
   match x.1 == (2 : Int) with
   | true =>
    K (frmR [J0] (bodyOf Try.f3) 25)
     (Sy.mk (SV.vec 0 ao (List.length bs) cap :: (SV.raw (u 1) :: (SV.raw (u 2) :: (SV.ptr 1 bt 0 :: (SV.ptr 2 br 0 :: (SV.int IntKind.i64 (↑i : Int) :: (SV.ptr 3 b6 0 :: (SV.int IntKind.i64 (0 : Int) :: (SV.int IntKind.i64 (0 : Int) :: (rawR u 9 (SV.ptr 3 b6 0 :: (SV.int IntKind.i64 x.1 :: (rawR u 54 (SV.bool false :: ((SV.bool (x.1 == (0 : Int))) :: (rawR u 74 (SV.bool false :: ((SV.bool (x.1 == (1 : Int))) :: (rawR u 84 (SV.bool true :: ((SV.bool (x.1 == (2 : Int))) :: (rawR u 94 [] 114))) 8))) 8))) 18))) 43))))))))))
      [Ent.mk (Loc.sl ao cap) (SObj.roL 4 encStepP bs (StepP.mk (0 : Int) (0 : Int) (ByteArray.mk #[]) (ByteArray.mk #[]))), pkA bt psE s, pkA br rpE r,
       Ent.mk (Loc.blk b6) (SObj.cells [SV.int IntKind.i64 x.1, SV.int IntKind.i64 x.2, SV.str x.3, SV.str x.4] (32 : TypeId))])
   | false =>
    match x.1 == (3 : Int) with
    | true =>
     K (frmR [J0] (bodyOf Try.f3) 25)
      (Sy.mk (SV.vec 0 ao (List.length bs) cap :: (SV.raw (u 1) :: (SV.raw (u 2) :: (SV.ptr 1 bt 0 :: (SV.ptr 2 br 0 :: (SV.int IntKind.i64 (↑i : Int) :: (SV.ptr 3 b6 0 :: (SV.int IntKind.i64 (0 : Int) :: (SV.int IntKind.i64 (0 : Int) :: (rawR u 9 (SV.ptr 3 b6 0 :: (SV.int IntKind.i64 x.1 :: (rawR u 54 (SV.bool false :: ((SV.bool (x.1 == (0 : Int))) :: (rawR u 74 (SV.bool false :: ((SV.bool (x.1 == (1 : Int))) :: (rawR u 84 (SV.bool true :: ((SV.bool (x.1 == (2 : Int))) :: ((SV.bool (x.1 == (3 : Int))) :: (rawR u 95 [] 113)))) 8))) 8))) 18))) 43))))))))))
       [Ent.mk (Loc.sl ao cap) (SObj.roL 4 encStepP bs (StepP.mk (0 : Int) (0 : Int) (ByteArray.mk #[]) (ByteArray.mk #[]))), pkA bt psE s, pkA br rpE r,
        Ent.mk (Loc.blk b6) (SObj.cells [SV.int IntKind.i64 x.1, SV.int IntKind.i64 x.2, SV.str x.3, SV.str x.4] (32 : TypeId))])
    | false =>
     match x.1 == (4 : Int) with
     | true =>
      K (frmR [J0] (bodyOf Try.f3) 25)
       (Sy.mk (SV.vec 0 ao (List.length bs) cap :: (SV.raw (u 1) :: (SV.raw (u 2) :: (SV.ptr 1 bt 0 :: (SV.ptr 2 br 0 :: (SV.int IntKind.i64 (↑i : Int) :: (SV.ptr 3 b6 0 :: (SV.int IntKind.i64 (0 : Int) :: (SV.int IntKind.i64 (0 : Int) :: (rawR u 9 (SV.ptr 3 b6 0 :: (SV.int IntKind.i64 x.1 :: (rawR u 54 (SV.bool false :: ((SV.bool (x.1 == (0 : Int))) :: (rawR u 74 (SV.bool false :: ((SV.bool (x.1 == (1 : Int))) :: (rawR u 84 (SV.bool true :: ((SV.bool (x.1 == (2 : Int))) :: ((SV.bool (x.1 == (3 : Int))) :: ((SV.bool (x.1 == (4 : Int))) :: (rawR u 96 [] 112))))) 8))) 8))) 18))) 43))))))))))
        [Ent.mk (Loc.sl ao cap) (SObj.roL 4 encStepP bs (StepP.mk (0 : Int) (0 : Int) (ByteArray.mk #[]) (ByteArray.mk #[]))), pkA bt psE s, pkA br rpE r,
         Ent.mk (Loc.blk b6) (SObj.cells [SV.int IntKind.i64 x.1, SV.int IntKind.i64 x.2, SV.str x.3, SV.str x.4] (32 : TypeId))])
     | false =>
      match x.1 == (5 : Int) with
      | true =>
       K (frmR [J0] (bodyOf Try.f3) 31)
        (Sy.mk (SV.vec 0 ao (List.length bs) cap :: (SV.raw (u 1) :: (SV.raw (u 2) :: (SV.ptr 1 bt 0 :: (SV.ptr 2 br 0 :: (SV.int IntKind.i64 (↑i : Int) :: (SV.ptr 3 b6 0 :: (SV.int IntKind.i64 (0 : Int) :: (SV.int IntKind.i64 (0 : Int) :: (rawR u 9 (SV.ptr 3 b6 0 :: (SV.int IntKind.i64 x.1 :: (rawR u 54 (SV.bool false :: ((SV.bool (x.1 == (0 : Int))) :: (rawR u 74 (SV.bool false :: ((SV.bool (x.1 == (1 : Int))) :: (rawR u 84 (SV.bool false :: ((SV.bool (x.1 == (2 : Int))) :: ((SV.bool (x.1 == (3 : Int))) :: ((SV.bool (x.1 == (4 : Int))) :: (rawR u 96 (SV.bool true :: ((SV.bool (x.1 == (5 : Int))) :: (rawR u 121 [] 87))) 23))))) 8))) 8))) 18))) 43))))))))))
         [Ent.mk (Loc.sl ao cap) (SObj.roL 4 encStepP bs (StepP.mk (0 : Int) (0 : Int) (ByteArray.mk #[]) (ByteArray.mk #[]))), pkA bt psE s, pkA br rpE r,
          Ent.mk (Loc.blk b6) (SObj.cells [SV.int IntKind.i64 x.1, SV.int IntKind.i64 x.2, SV.str x.3, SV.str x.4] (32 : TypeId))])
      | false =>
       match x.1 == (6 : Int) with
       | true =>
        K (frmR [J0] (bodyOf Try.f3) 38)
         (Sy.mk (SV.vec 0 ao (List.length bs) cap :: (SV.raw (u 1) :: (SV.raw (u 2) :: (SV.ptr 1 bt 0 :: (SV.ptr 2 br 0 :: (SV.int IntKind.i64 (↑i : Int) :: (SV.ptr 3 b6 0 :: (SV.int IntKind.i64 (0 : Int) :: (SV.int IntKind.i64 (0 : Int) :: (rawR u 9 (SV.ptr 3 b6 0 :: (SV.int IntKind.i64 x.1 :: (rawR u 54 (SV.bool false :: ((SV.bool (x.1 == (0 : Int))) :: (rawR u 74 (SV.bool false :: ((SV.bool (x.1 == (1 : Int))) :: (rawR u 84 (SV.bool false :: ((SV.bool (x.1 == (2 : Int))) :: ((SV.bool (x.1 == (3 : Int))) :: ((SV.bool (x.1 == (4 : Int))) :: (rawR u 96 (SV.bool false :: ((SV.bool (x.1 == (5 : Int))) :: (rawR u 121 (SV.bool true :: ((SV.bool (x.1 == (6 : Int))) :: (rawR u 142 [] 66))) 19))) 23))))) 8))) 8))) 18))) 43))))))))))
          [Ent.mk (Loc.sl ao cap) (SObj.roL 4 encStepP bs (StepP.mk (0 : Int) (0 : Int) (ByteArray.mk #[]) (ByteArray.mk #[]))), pkA bt psE s, pkA br rpE r,
           Ent.mk (Loc.blk b6) (SObj.cells [SV.int IntKind.i64 x.1, SV.int IntKind.i64 x.2, SV.str x.3, SV.str x.4] (32 : TypeId))])
       | false =>
        match x.1 == (7 : Int) with
        | true =>
         K (frmR [J0] (bodyOf Try.f3) 38)
          (Sy.mk (SV.vec 0 ao (List.length bs) cap :: (SV.raw (u 1) :: (SV.raw (u 2) :: (SV.ptr 1 bt 0 :: (SV.ptr 2 br 0 :: (SV.int IntKind.i64 (↑i : Int) :: (SV.ptr 3 b6 0 :: (SV.int IntKind.i64 (0 : Int) :: (SV.int IntKind.i64 (0 : Int) :: (rawR u 9 (SV.ptr 3 b6 0 :: (SV.int IntKind.i64 x.1 :: (rawR u 54 (SV.bool false :: ((SV.bool (x.1 == (0 : Int))) :: (rawR u 74 (SV.bool false :: ((SV.bool (x.1 == (1 : Int))) :: (rawR u 84 (SV.bool false :: ((SV.bool (x.1 == (2 : Int))) :: ((SV.bool (x.1 == (3 : Int))) :: ((SV.bool (x.1 == (4 : Int))) :: (rawR u 96 (SV.bool false :: ((SV.bool (x.1 == (5 : Int))) :: (rawR u 121 (SV.bool true :: ((SV.bool (x.1 == (6 : Int))) :: ((SV.bool (x.1 == (7 : Int))) :: (rawR u 143 [] 65)))) 19))) 23))))) 8))) 8))) 18))) 43))))))))))
           [Ent.mk (Loc.sl ao cap) (SObj.roL 4 encStepP bs (StepP.mk (0 : Int) (0 : Int) (ByteArray.mk #[]) (ByteArray.mk #[]))), pkA bt psE s, pkA br rpE r,
            Ent.mk (Loc.blk b6) (SObj.cells [SV.int IntKind.i64 x.1, SV.int IntKind.i64 x.2, SV.str x.3, SV.str x.4] (32 : TypeId))])
        | false =>
         K (frmR [J0] (bodyOf Try.f3) 14)
          (Sy.mk (SV.vec 0 ao (List.length bs) cap :: (SV.raw (u 1) :: (SV.raw (u 2) :: (SV.ptr 1 bt 0 :: (SV.ptr 2 br 0 :: (SV.int IntKind.i64 (↑i : Int) :: (SV.ptr 3 b6 0 :: (SV.int IntKind.i64 (0 : Int) :: (SV.int IntKind.i64 (0 : Int) :: (rawR u 9 (SV.ptr 3 b6 0 :: (SV.int IntKind.i64 x.1 :: (rawR u 54 (SV.bool false :: ((SV.bool (x.1 == (0 : Int))) :: (rawR u 74 (SV.bool false :: ((SV.bool (x.1 == (1 : Int))) :: (rawR u 84 (SV.bool false :: ((SV.bool (x.1 == (2 : Int))) :: ((SV.bool (x.1 == (3 : Int))) :: ((SV.bool (x.1 == (4 : Int))) :: (rawR u 96 (SV.bool false :: ((SV.bool (x.1 == (5 : Int))) :: (rawR u 121 (SV.bool false :: ((SV.bool (x.1 == (6 : Int))) :: ((SV.bool (x.1 == (7 : Int))) :: (rawR u 143 [] 65)))) 19))) 23))))) 8))) 8))) 18))) 43))))))))))
           [Ent.mk (Loc.sl ao cap) (SObj.roL 4 encStepP bs (StepP.mk (0 : Int) (0 : Int) (ByteArray.mk #[]) (ByteArray.mk #[]))), pkA bt psE s, pkA br rpE r,
            Ent.mk (Loc.blk b6) (SObj.cells [SV.int IntKind.i64 x.1, SV.int IntKind.i64 x.2, SV.str x.3, SV.str x.4] (32 : TypeId))])) := by kernel_rfl


theorem pt_19 (K : List Frm → Sy → Prop) (N : List Ent → SV → Prop) (J0 : Act → World → Prop) (ao : Option Addr) (cap : Nat) (bs : List StepP) (bt br : Nat) (s : PS) (r : RPs) (i : Nat) (x : StepP) (b6 : Nat) (u : Nat → Value) : (run Try.prog plT false [39] K (retP Try.prog Try.f3.results.toList N) 900 (frmR [J0] (bodyOf Try.f3) 19) ⟨mkT u 208 0 [(0, .vec 0 ao bs.length cap), (3, .ptr 1 bt 0), (4, .ptr 2 br 0), (5, .int .i64 (i : Int)), (6, .ptr 3 b6 0), (7, .int .i64 0), (8, .int .i64 0)], [⟨.sl ao cap, .roL 4 encStepP bs StepP.zero⟩, pkA bt psE (s), pkA br rpE (r), ⟨.blk b6, .cells (encStepP x) 32⟩]⟩) = (
(b6 = b6 ∧
 (true = true ∧
  bt = bt ∧
   ∃ (h : PS = PS),
    AdtIs (fun (s : PS) (b : Nat) ↦ packs (psE s b)) psE ∧
     psOk s ∧
      ∀ (nb : Nat),
       b6 = b6 ∧
        true = true ∧
         br = br ∧
          ∃ (h : RPs = RPs),
           AdtIs (fun (s : RPs) (b : Nat) ↦ packs (rpE s b)) rpE ∧
            rpOk r ∧
             ∀ (ao_1 : Option Addr) (cap_1 : Nat),
              K (frmR [J0] (bodyOf Try.f3) 39)
               (Sy.mk (SV.vec 0 ao (List.length bs) cap :: (SV.raw (u 1) :: (SV.raw (u 2) :: (SV.ptr 1 bt 0 :: (SV.ptr 2 br 0 :: (SV.int IntKind.i64 (↑i : Int) :: (SV.ptr 3 b6 0 :: (SV.int IntKind.i64 (pListen s x.3 nb).2 :: (SV.int IntKind.i64 (qListen r x.3 ao_1 cap_1).2 :: (rawR u 9 (SV.ptr 1 bt 0 :: (SV.ptr 3 b6 2 :: (SV.str x.3 :: (SV.int IntKind.i64 (pListen s x.3 nb).2 :: (SV.ptr 2 br 0 :: (SV.ptr 3 b6 2 :: (SV.str x.3 :: (SV.int IntKind.i64 (qListen r x.3 ao_1 cap_1).2 :: (rawR u 82 [] 126))))))))) 65))))))))))
                [Ent.mk (Loc.sl ao cap) (SObj.roL 4 encStepP bs (StepP.mk (0 : Int) (0 : Int) (ByteArray.mk #[]) (ByteArray.mk #[]))), pkA bt psE (pListen s x.3 nb).1,
                 pkA br rpE (qListen r x.3 ao_1 cap_1).1,
                 Ent.mk (Loc.blk b6) (SObj.cells [SV.int IntKind.i64 x.1, SV.int IntKind.i64 x.2, SV.str x.3, SV.str x.4] (32 : TypeId))])) ∧
  b6 = b6 ∧
   true = true ∧
    bt = bt ∧
     ∃ (h : PS = PS),
      AdtIs (fun (s : PS) (b : Nat) ↦ packs (psE s b)) psE ∧
       psOk s ∧
        ∀ (nb : Nat),
         true = true ∧
          br = br ∧
           ∃ (h : RPs = RPs),
            AdtIs (fun (s : RPs) (b : Nat) ↦ packs (rpE s b)) rpE ∧
             rpOk r ∧
              ∀ (ao_1 : Option Addr) (cap_1 : Nat),
               K (frmR [J0] (bodyOf Try.f3) 39)
                (Sy.mk (SV.vec 0 ao (List.length bs) cap :: (SV.raw (u 1) :: (SV.raw (u 2) :: (SV.ptr 1 bt 0 :: (SV.ptr 2 br 0 :: (SV.int IntKind.i64 (↑i : Int) :: (SV.ptr 3 b6 0 :: (SV.int IntKind.i64 (pListen s x.3 nb).2 :: (SV.int IntKind.i64 (qListen r x.3 ao_1 cap_1).2 :: (rawR u 9 (SV.ptr 1 bt 0 :: (SV.ptr 3 b6 2 :: (SV.str x.3 :: (SV.int IntKind.i64 (pListen s x.3 nb).2 :: (SV.ptr 2 br 0 :: (SV.ptr 3 b6 2 :: (SV.str x.3 :: (SV.int IntKind.i64 (qListen r x.3 ao_1 cap_1).2 :: (rawR u 82 [] 126))))))))) 65))))))))))
                 [Ent.mk (Loc.sl ao cap) (SObj.roL 4 encStepP bs (StepP.mk (0 : Int) (0 : Int) (ByteArray.mk #[]) (ByteArray.mk #[]))), pkA bt psE (pListen s x.3 nb).1,
                  pkA br rpE (qListen r x.3 ao_1 cap_1).1,
                  Ent.mk (Loc.blk b6) (SObj.cells [SV.int IntKind.i64 x.1, SV.int IntKind.i64 x.2, SV.str x.3, SV.str x.4] (32 : TypeId))])) ∧
 b6 = b6 ∧
  b6 = b6 ∧
   true = true ∧
    bt = bt ∧
     ∃ (h : PS = PS),
      AdtIs (fun (s : PS) (b : Nat) ↦ packs (psE s b)) psE ∧
       psOk s ∧
        ∀ (nb : Nat),
         true = true ∧
          br = br ∧
           ∃ (h : RPs = RPs),
            AdtIs (fun (s : RPs) (b : Nat) ↦ packs (rpE s b)) rpE ∧
             rpOk r ∧
              ∀ (ao_1 : Option Addr) (cap_1 : Nat),
               K (frmR [J0] (bodyOf Try.f3) 39)
                (Sy.mk (SV.vec 0 ao (List.length bs) cap :: (SV.raw (u 1) :: (SV.raw (u 2) :: (SV.ptr 1 bt 0 :: (SV.ptr 2 br 0 :: (SV.int IntKind.i64 (↑i : Int) :: (SV.ptr 3 b6 0 :: (SV.int IntKind.i64 (pListen s x.3 nb).2 :: (SV.int IntKind.i64 (qListen r x.3 ao_1 cap_1).2 :: (rawR u 9 (SV.ptr 1 bt 0 :: (SV.ptr 3 b6 2 :: (SV.str x.3 :: (SV.int IntKind.i64 (pListen s x.3 nb).2 :: (SV.ptr 2 br 0 :: (SV.ptr 3 b6 2 :: (SV.str x.3 :: (SV.int IntKind.i64 (qListen r x.3 ao_1 cap_1).2 :: (rawR u 82 [] 126))))))))) 65))))))))))
                 [Ent.mk (Loc.sl ao cap) (SObj.roL 4 encStepP bs (StepP.mk (0 : Int) (0 : Int) (ByteArray.mk #[]) (ByteArray.mk #[]))), pkA bt psE (pListen s x.3 nb).1,
                  pkA br rpE (qListen r x.3 ao_1 cap_1).1, Ent.mk (Loc.blk b6) (SObj.cells [SV.int IntKind.i64 x.1, SV.int IntKind.i64 x.2, SV.str x.3, SV.str x.4] (32 : TypeId))])) := by kernel_rfl


theorem pt_21 (K : List Frm → Sy → Prop) (N : List Ent → SV → Prop) (J0 : Act → World → Prop) (ao : Option Addr) (cap : Nat) (bs : List StepP) (bt br : Nat) (s : PS) (r : RPs) (i : Nat) (x : StepP) (b6 : Nat) (u : Nat → Value) : (run Try.prog plT false [39] K (retP Try.prog Try.f3.results.toList N) 900 (frmR [J0] (bodyOf Try.f3) 21) ⟨mkT u 208 0 [(0, .vec 0 ao bs.length cap), (3, .ptr 1 bt 0), (4, .ptr 2 br 0), (5, .int .i64 (i : Int)), (6, .ptr 3 b6 0), (7, .int .i64 0), (8, .int .i64 0)], [⟨.sl ao cap, .roL 4 encStepP bs StepP.zero⟩, pkA bt psE (s), pkA br rpE (r), ⟨.blk b6, .cells (encStepP x) 32⟩]⟩) = (
(b6 = b6 ∧
 (true = true ∧
  bt = bt ∧
   ∃ (h : PS = PS),
    AdtIs (fun (s : PS) (b : Nat) ↦ packs (psE s b)) psE ∧
     psOk s ∧
      b6 = b6 ∧
       true = true ∧
        br = br ∧
         ∃ (h : RPs = RPs),
          AdtIs (fun (s : RPs) (b : Nat) ↦ packs (rpE s b)) rpE ∧
           rpOk r ∧
            ∀ (ao_1 : Option Addr) (cap_1 : Nat),
             K (frmR [J0] (bodyOf Try.f3) 39)
              (Sy.mk (SV.vec 0 ao (List.length bs) cap :: (SV.raw (u 1) :: (SV.raw (u 2) :: (SV.ptr 1 bt 0 :: (SV.ptr 2 br 0 :: (SV.int IntKind.i64 (↑i : Int) :: (SV.ptr 3 b6 0 :: (SV.int IntKind.i64 (pClose s x.3).2 :: (SV.int IntKind.i64 (qClose r x.3 ao_1 cap_1).2 :: (rawR u 9 (SV.ptr 1 bt 0 :: (SV.ptr 3 b6 2 :: (SV.str x.3 :: (SV.int IntKind.i64 (pClose s x.3).2 :: (SV.ptr 2 br 0 :: (SV.ptr 3 b6 2 :: (SV.str x.3 :: (SV.int IntKind.i64 (qClose r x.3 ao_1 cap_1).2 :: (rawR u 92 [] 116))))))))) 75))))))))))
               [Ent.mk (Loc.sl ao cap) (SObj.roL 4 encStepP bs (StepP.mk (0 : Int) (0 : Int) (ByteArray.mk #[]) (ByteArray.mk #[]))), pkA bt psE (pClose s x.3).1,
                pkA br rpE (qClose r x.3 ao_1 cap_1).1, Ent.mk (Loc.blk b6) (SObj.cells [SV.int IntKind.i64 x.1, SV.int IntKind.i64 x.2, SV.str x.3, SV.str x.4] (32 : TypeId))])) ∧
  b6 = b6 ∧
   true = true ∧
    bt = bt ∧
     ∃ (h : PS = PS),
      AdtIs (fun (s : PS) (b : Nat) ↦ packs (psE s b)) psE ∧
       psOk s ∧
        true = true ∧
         br = br ∧
          ∃ (h : RPs = RPs),
           AdtIs (fun (s : RPs) (b : Nat) ↦ packs (rpE s b)) rpE ∧
            rpOk r ∧
             ∀ (ao_1 : Option Addr) (cap_1 : Nat),
              K (frmR [J0] (bodyOf Try.f3) 39)
               (Sy.mk (SV.vec 0 ao (List.length bs) cap :: (SV.raw (u 1) :: (SV.raw (u 2) :: (SV.ptr 1 bt 0 :: (SV.ptr 2 br 0 :: (SV.int IntKind.i64 (↑i : Int) :: (SV.ptr 3 b6 0 :: (SV.int IntKind.i64 (pClose s x.3).2 :: (SV.int IntKind.i64 (qClose r x.3 ao_1 cap_1).2 :: (rawR u 9 (SV.ptr 1 bt 0 :: (SV.ptr 3 b6 2 :: (SV.str x.3 :: (SV.int IntKind.i64 (pClose s x.3).2 :: (SV.ptr 2 br 0 :: (SV.ptr 3 b6 2 :: (SV.str x.3 :: (SV.int IntKind.i64 (qClose r x.3 ao_1 cap_1).2 :: (rawR u 92 [] 116))))))))) 75))))))))))
                [Ent.mk (Loc.sl ao cap) (SObj.roL 4 encStepP bs (StepP.mk (0 : Int) (0 : Int) (ByteArray.mk #[]) (ByteArray.mk #[]))), pkA bt psE (pClose s x.3).1,
                 pkA br rpE (qClose r x.3 ao_1 cap_1).1, Ent.mk (Loc.blk b6) (SObj.cells [SV.int IntKind.i64 x.1, SV.int IntKind.i64 x.2, SV.str x.3, SV.str x.4] (32 : TypeId))])) ∧
 b6 = b6 ∧
  b6 = b6 ∧
   true = true ∧
    bt = bt ∧
     ∃ (h : PS = PS),
      AdtIs (fun (s : PS) (b : Nat) ↦ packs (psE s b)) psE ∧
       psOk s ∧
        true = true ∧
         br = br ∧
          ∃ (h : RPs = RPs),
           AdtIs (fun (s : RPs) (b : Nat) ↦ packs (rpE s b)) rpE ∧
            rpOk r ∧
             ∀ (ao_1 : Option Addr) (cap_1 : Nat),
              K (frmR [J0] (bodyOf Try.f3) 39)
               (Sy.mk (SV.vec 0 ao (List.length bs) cap :: (SV.raw (u 1) :: (SV.raw (u 2) :: (SV.ptr 1 bt 0 :: (SV.ptr 2 br 0 :: (SV.int IntKind.i64 (↑i : Int) :: (SV.ptr 3 b6 0 :: (SV.int IntKind.i64 (pClose s x.3).2 :: (SV.int IntKind.i64 (qClose r x.3 ao_1 cap_1).2 :: (rawR u 9 (SV.ptr 1 bt 0 :: (SV.ptr 3 b6 2 :: (SV.str x.3 :: (SV.int IntKind.i64 (pClose s x.3).2 :: (SV.ptr 2 br 0 :: (SV.ptr 3 b6 2 :: (SV.str x.3 :: (SV.int IntKind.i64 (qClose r x.3 ao_1 cap_1).2 :: (rawR u 92 [] 116))))))))) 75))))))))))
                [Ent.mk (Loc.sl ao cap) (SObj.roL 4 encStepP bs (StepP.mk (0 : Int) (0 : Int) (ByteArray.mk #[]) (ByteArray.mk #[]))), pkA bt psE (pClose s x.3).1,
                 pkA br rpE (qClose r x.3 ao_1 cap_1).1, Ent.mk (Loc.blk b6) (SObj.cells [SV.int IntKind.i64 x.1, SV.int IntKind.i64 x.2, SV.str x.3, SV.str x.4] (32 : TypeId))])) := by kernel_rfl


theorem pt_25 (K : List Frm → Sy → Prop) (N : List Ent → SV → Prop) (J0 : Act → World → Prop) (ao : Option Addr) (cap : Nat) (bs : List StepP) (bt br : Nat) (s : PS) (r : RPs) (i : Nat) (x : StepP) (b6 : Nat) (u : Nat → Value) : (run Try.prog plT false [39] K (retP Try.prog Try.f3.results.toList N) 900 (frmR [J0] (bodyOf Try.f3) 25) ⟨mkT u 208 0 [(0, .vec 0 ao bs.length cap), (3, .ptr 1 bt 0), (4, .ptr 2 br 0), (5, .int .i64 (i : Int)), (6, .ptr 3 b6 0), (7, .int .i64 0), (8, .int .i64 0)], [⟨.sl ao cap, .roL 4 encStepP bs StepP.zero⟩, pkA bt psE (s), pkA br rpE (r), ⟨.blk b6, .cells (encStepP x) 32⟩]⟩) = (
b6 = b6 ∧
 b6 = b6 ∧
  true = true ∧
   bt = bt ∧
    ∃ (h : PS = PS),
     AdtIs (fun (s : PS) (b : Nat) ↦ packs (psE s b)) psE ∧
      psOk s ∧
       ∀ (ao_1 : Option Addr) (cap_1 : Nat),
        b6 = b6 ∧
         b6 = b6 ∧
          true = true ∧
           br = br ∧
            ∃ (h : RPs = RPs),
             AdtIs (fun (s : RPs) (b : Nat) ↦ packs (rpE s b)) rpE ∧
              rpOk r ∧
               ∀ (ao_2 : Option Addr) (cap_2 : Nat),
                match (pConnect s x.3 x.4 ao_1 cap_1).2.1 != (qConnect r x.3 x.4 ao_2 cap_2).2.1 with
                | true =>
                 N
                  [Ent.mk (Loc.sl ao cap) (SObj.roL 4 encStepP bs (StepP.mk (0 : Int) (0 : Int) (ByteArray.mk #[]) (ByteArray.mk #[]))),
                   pkA bt psE (pConnect s x.3 x.4 ao_1 cap_1).1, pkA br rpE (qConnect r x.3 x.4 ao_2 cap_2).1,
                   Ent.mk (Loc.blk b6) (SObj.cells [SV.int IntKind.i64 x.1, SV.int IntKind.i64 x.2, SV.str x.3, SV.str x.4] (32 : TypeId))]
                  (SV.bool false)
                | false =>
                 K (frmR [J0] (bodyOf Try.f3) 39)
                  (Sy.mk (SV.vec 0 ao (List.length bs) cap :: (SV.raw (u 1) :: (SV.raw (u 2) :: (SV.ptr 1 bt 0 :: (SV.ptr 2 br 0 :: (SV.int IntKind.i64 (↑i : Int) :: (SV.ptr 3 b6 0 :: (SV.int IntKind.i64 (pConnect s x.3 x.4 ao_1 cap_1).2.2 :: (SV.int IntKind.i64 (qConnect r x.3 x.4 ao_2 cap_2).2.2 :: (SV.int IntKind.i64 (pConnect s x.3 x.4 ao_1 cap_1).2.1 :: (SV.int IntKind.i64 (pConnect s x.3 x.4 ao_1 cap_1).2.2 :: (SV.int IntKind.i64 (qConnect r x.3 x.4 ao_2 cap_2).2.1 :: (SV.int IntKind.i64 (qConnect r x.3 x.4 ao_2 cap_2).2.2 :: (rawR u 13 (SV.tuple [SV.int IntKind.i64 (pConnect s x.3 x.4 ao_1 cap_1).2.1, SV.int IntKind.i64 (pConnect s x.3 x.4 ao_1 cap_1).2.2] :: (SV.ptr 1 bt 0 :: (SV.ptr 3 b6 2 :: (SV.str x.3 :: (SV.ptr 3 b6 3 :: (SV.str x.4 :: (SV.tuple [SV.int IntKind.i64 (pConnect s x.3 x.4 ao_1 cap_1).2.1, SV.int IntKind.i64 (pConnect s x.3 x.4 ao_1 cap_1).2.2] :: (SV.int IntKind.i64 (pConnect s x.3 x.4 ao_1 cap_1).2.1 :: (SV.int IntKind.i64 (pConnect s x.3 x.4 ao_1 cap_1).2.2 :: (SV.tuple [SV.int IntKind.i64 (qConnect r x.3 x.4 ao_2 cap_2).2.1, SV.int IntKind.i64 (qConnect r x.3 x.4 ao_2 cap_2).2.2] :: (SV.ptr 2 br 0 :: (SV.ptr 3 b6 2 :: (SV.str x.3 :: (SV.ptr 3 b6 3 :: (SV.str x.4 :: (SV.tuple [SV.int IntKind.i64 (qConnect r x.3 x.4 ao_2 cap_2).2.1, SV.int IntKind.i64 (qConnect r x.3 x.4 ao_2 cap_2).2.2] :: (SV.int IntKind.i64 (qConnect r x.3 x.4 ao_2 cap_2).2.1 :: (SV.int IntKind.i64 (qConnect r x.3 x.4 ao_2 cap_2).2.2 :: (SV.int IntKind.i64 (pConnect s x.3 x.4 ao_1 cap_1).2.1 :: (SV.int IntKind.i64 (qConnect r x.3 x.4 ao_2 cap_2).2.1 :: (SV.bool false :: (SV.int IntKind.i64 (pConnect s x.3 x.4 ao_1 cap_1).2.2 :: (SV.int IntKind.i64 (qConnect r x.3 x.4 ao_2 cap_2).2.2 :: (rawR u 119 [] 89)))))))))))))))))))))))) 83))))))))))))))
                   [Ent.mk (Loc.sl ao cap) (SObj.roL 4 encStepP bs (StepP.mk (0 : Int) (0 : Int) (ByteArray.mk #[]) (ByteArray.mk #[]))),
                    pkA bt psE (pConnect s x.3 x.4 ao_1 cap_1).1, pkA br rpE (qConnect r x.3 x.4 ao_2 cap_2).1,
                    Ent.mk (Loc.blk b6) (SObj.cells [SV.int IntKind.i64 x.1, SV.int IntKind.i64 x.2, SV.str x.3, SV.str x.4] (32 : TypeId))])) := by kernel_rfl


theorem pt_31 (K : List Frm → Sy → Prop) (N : List Ent → SV → Prop) (J0 : Act → World → Prop) (ao : Option Addr) (cap : Nat) (bs : List StepP) (bt br : Nat) (s : PS) (r : RPs) (i : Nat) (x : StepP) (b6 : Nat) (u : Nat → Value) : (run Try.prog plT false [39] K (retP Try.prog Try.f3.results.toList N) 900 (frmR [J0] (bodyOf Try.f3) 31) ⟨mkT u 208 0 [(0, .vec 0 ao bs.length cap), (3, .ptr 1 bt 0), (4, .ptr 2 br 0), (5, .int .i64 (i : Int)), (6, .ptr 3 b6 0), (7, .int .i64 0), (8, .int .i64 0)], [⟨.sl ao cap, .roL 4 encStepP bs StepP.zero⟩, pkA bt psE (s), pkA br rpE (r), ⟨.blk b6, .cells (encStepP x) 32⟩]⟩) = (
b6 = b6 ∧
 true = true ∧
  bt = bt ∧
   ∃ (h : PS = PS),
    AdtIs (fun (s : PS) (b : Nat) ↦ packs (psE s b)) psE ∧
     psOk s ∧
      ∀ (ao_1 : Option Addr) (cap_1 b : Nat),
       (b = b ∧ true = true ∧ 2 = 2 ∧ 2 ≤ 2) ∧
        b6 = b6 ∧
         true = true ∧
          br = br ∧
           ∃ (h : RPs = RPs),
            AdtIs (fun (s : RPs) (b : Nat) ↦ packs (rpE s b)) rpE ∧
             rpOk r ∧
              ∀ (ao_2 : Option Addr) (cap_2 b_1 : Nat),
               (b_1 = b_1 ∧ true = true ∧ 2 = 2 ∧ 2 ≤ 2) ∧
                (b = b ∧ 2 = 2) ∧
                 (b_1 = b_1 ∧ 2 = 2) ∧
                  match
                   !((pAccept s x.3 ao_1 cap_1).2.1.1 == (qAccept r x.3 ao_2 cap_2).2.1.1 && (sEq (pAccept s x.3 ao_1 cap_1).2.1.2 (qAccept r x.3 ao_2 cap_2).2.1.2 && true)) with
                  | true =>
                   N
                    [Ent.mk (Loc.sl ao cap) (SObj.roL 4 encStepP bs (StepP.mk (0 : Int) (0 : Int) (ByteArray.mk #[]) (ByteArray.mk #[]))),
                     pkA bt psE (pAccept s x.3 ao_1 cap_1).1, pkA br rpE (qAccept r x.3 ao_2 cap_2).1,
                     Ent.mk (Loc.blk b6) (SObj.cells [SV.int IntKind.i64 x.1, SV.int IntKind.i64 x.2, SV.str x.3, SV.str x.4] (32 : TypeId)),
                     Ent.mk (Loc.blk b) (SObj.cells [SV.int IntKind.i64 (pAccept s x.3 ao_1 cap_1).2.1.1, SV.str (pAccept s x.3 ao_1 cap_1).2.1.2] 41),
                     Ent.mk (Loc.blk b_1) (SObj.cells [SV.int IntKind.i64 (qAccept r x.3 ao_2 cap_2).2.1.1, SV.str (qAccept r x.3 ao_2 cap_2).2.1.2] 41)]
                    (SV.bool false)
                  | false =>
                   K (frmR [J0] (bodyOf Try.f3) 39)
                    (Sy.mk (SV.vec 0 ao (List.length bs) cap :: (SV.raw (u 1) :: (SV.raw (u 2) :: (SV.ptr 1 bt 0 :: (SV.ptr 2 br 0 :: (SV.int IntKind.i64 (↑i : Int) :: (SV.ptr 3 b6 0 :: (SV.int IntKind.i64 (pAccept s x.3 ao_1 cap_1).2.2 :: (SV.int IntKind.i64 (qAccept r x.3 ao_2 cap_2).2.2 :: (rawR u 9 (SV.ptr 4 b 0 :: (SV.int IntKind.i64 (pAccept s x.3 ao_1 cap_1).2.2 :: (SV.ptr 5 b_1 0 :: (SV.int IntKind.i64 (qAccept r x.3 ao_2 cap_2).2.2 :: (rawR u 17 (SV.tuple [SV.agg [SV.int IntKind.i64 (pAccept s x.3 ao_1 cap_1).2.1.1, SV.str (pAccept s x.3 ao_1 cap_1).2.1.2], SV.int IntKind.i64 (pAccept s x.3 ao_1 cap_1).2.2] :: (SV.ptr 1 bt 0 :: (SV.ptr 3 b6 2 :: (SV.str x.3 :: (SV.tuple [SV.agg [SV.int IntKind.i64 (pAccept s x.3 ao_1 cap_1).2.1.1, SV.str (pAccept s x.3 ao_1 cap_1).2.1.2], SV.int IntKind.i64 (pAccept s x.3 ao_1 cap_1).2.2] :: (SV.agg [SV.int IntKind.i64 (pAccept s x.3 ao_1 cap_1).2.1.1, SV.str (pAccept s x.3 ao_1 cap_1).2.1.2] :: (SV.int IntKind.i64 (pAccept s x.3 ao_1 cap_1).2.2 :: (SV.tuple [SV.agg [SV.int IntKind.i64 (qAccept r x.3 ao_2 cap_2).2.1.1, SV.str (qAccept r x.3 ao_2 cap_2).2.1.2], SV.int IntKind.i64 (qAccept r x.3 ao_2 cap_2).2.2] :: (SV.ptr 2 br 0 :: (SV.ptr 3 b6 2 :: (SV.str x.3 :: (SV.tuple [SV.agg [SV.int IntKind.i64 (qAccept r x.3 ao_2 cap_2).2.1.1, SV.str (qAccept r x.3 ao_2 cap_2).2.1.2], SV.int IntKind.i64 (qAccept r x.3 ao_2 cap_2).2.2] :: (SV.agg [SV.int IntKind.i64 (qAccept r x.3 ao_2 cap_2).2.1.1, SV.str (qAccept r x.3 ao_2 cap_2).2.1.2] :: (SV.int IntKind.i64 (qAccept r x.3 ao_2 cap_2).2.2 :: (SV.agg [SV.int IntKind.i64 (pAccept s x.3 ao_1 cap_1).2.1.1, SV.str (pAccept s x.3 ao_1 cap_1).2.1.2] :: (SV.agg [SV.int IntKind.i64 (qAccept r x.3 ao_2 cap_2).2.1.1, SV.str (qAccept r x.3 ao_2 cap_2).2.1.2] :: (SV.bool false :: (SV.int IntKind.i64 (pAccept s x.3 ao_1 cap_1).2.2 :: (SV.int IntKind.i64 (qAccept r x.3 ao_2 cap_2).2.2 :: (rawR u 140 [] 68)))))))))))))))))))) 104))))) 4))))))))))
                     [Ent.mk (Loc.sl ao cap) (SObj.roL 4 encStepP bs (StepP.mk (0 : Int) (0 : Int) (ByteArray.mk #[]) (ByteArray.mk #[]))),
                      pkA bt psE (pAccept s x.3 ao_1 cap_1).1, pkA br rpE (qAccept r x.3 ao_2 cap_2).1,
                      Ent.mk (Loc.blk b6) (SObj.cells [SV.int IntKind.i64 x.1, SV.int IntKind.i64 x.2, SV.str x.3, SV.str x.4] (32 : TypeId)),
                      Ent.mk (Loc.blk b) (SObj.cells [SV.int IntKind.i64 (pAccept s x.3 ao_1 cap_1).2.1.1, SV.str (pAccept s x.3 ao_1 cap_1).2.1.2] 41),
                      Ent.mk (Loc.blk b_1) (SObj.cells [SV.int IntKind.i64 (qAccept r x.3 ao_2 cap_2).2.1.1, SV.str (qAccept r x.3 ao_2 cap_2).2.1.2] 41)])) := by kernel_rfl


theorem pt_38 (K : List Frm → Sy → Prop) (N : List Ent → SV → Prop) (J0 : Act → World → Prop) (ao : Option Addr) (cap : Nat) (bs : List StepP) (bt br : Nat) (s : PS) (r : RPs) (i : Nat) (x : StepP) (b6 : Nat) (u : Nat → Value) : (run Try.prog plT false [39] K (retP Try.prog Try.f3.results.toList N) 900 (frmR [J0] (bodyOf Try.f3) 38) ⟨mkT u 208 0 [(0, .vec 0 ao bs.length cap), (3, .ptr 1 bt 0), (4, .ptr 2 br 0), (5, .int .i64 (i : Int)), (6, .ptr 3 b6 0), (7, .int .i64 0), (8, .int .i64 0)], [⟨.sl ao cap, .roL 4 encStepP bs StepP.zero⟩, pkA bt psE (s), pkA br rpE (r), ⟨.blk b6, .cells (encStepP x) 32⟩]⟩) = (
(b6 = b6 ∧
 (b6 = b6 ∧
  (true = true ∧
   bt = bt ∧
    ∃ (h : PS = PS),
     AdtIs (fun (s : PS) (b : Nat) ↦ packs (psE s b)) psE ∧
      psOk s ∧
       ∀ (ao_1 : Option Addr) (cap_1 : Nat),
        (b6 = b6 ∧
         b6 = b6 ∧
          true = true ∧
           br = br ∧
            ∃ (h : RPs = RPs),
             AdtIs (fun (s : RPs) (b : Nat) ↦ packs (rpE s b)) rpE ∧
              rpOk r ∧
               ∀ (ao_2 : Option Addr) (cap_2 : Nat),
                K (frmR [J0] (bodyOf Try.f3) 39)
                 (Sy.mk (SV.vec 0 ao (List.length bs) cap :: (SV.raw (u 1) :: (SV.raw (u 2) :: (SV.ptr 1 bt 0 :: (SV.ptr 2 br 0 :: (SV.int IntKind.i64 (↑i : Int) :: (SV.ptr 3 b6 0 :: (SV.int IntKind.i64 (dAdd s.5 x.2 x.4).2 :: (SV.int IntKind.i64 (dAdd r.7 x.2 x.4).2 :: (rawR u 9 (SV.ptr 1 bt 0 :: (SV.ptr 3 b6 1 :: (SV.int IntKind.i64 x.2 :: (SV.ptr 3 b6 3 :: (SV.str x.4 :: (SV.int IntKind.i64 (dAdd s.5 x.2 x.4).2 :: (SV.ptr 2 br 0 :: (SV.ptr 3 b6 1 :: (SV.int IntKind.i64 x.2 :: (SV.ptr 3 b6 3 :: (SV.str x.4 :: (SV.int IntKind.i64 (dAdd r.7 x.2 x.4).2 :: (rawR u 155 [] 53))))))))))))) 134))))))))))
                  [Ent.mk (Loc.sl ao cap) (SObj.roL 4 encStepP bs (StepP.mk (0 : Int) (0 : Int) (ByteArray.mk #[]) (ByteArray.mk #[]))),
                   pkA bt psE (PS.mk s.1 s.2 ao_1 cap_1 (dAdd s.5 x.2 x.4).1 s.6), pkA br rpE (RPs.mk r.aoL r.2 r.3 r.4 ao_2 cap_2 (dAdd r.7 x.2 x.4).1),
                   Ent.mk (Loc.blk b6) (SObj.cells [SV.int IntKind.i64 x.1, SV.int IntKind.i64 x.2, SV.str x.3, SV.str x.4] (32 : TypeId))])) ∧
         b6 = b6 ∧
          b6 = b6 ∧
           true = true ∧
            br = br ∧
             ∃ (h : RPs = RPs),
              AdtIs (fun (s : RPs) (b : Nat) ↦ packs (rpE s b)) rpE ∧
               rpOk r ∧
                ∀ (ao_2 : Option Addr) (cap_2 : Nat),
                 K (frmR [J0] (bodyOf Try.f3) 39)
                  (Sy.mk (SV.vec 0 ao (List.length bs) cap :: (SV.raw (u 1) :: (SV.raw (u 2) :: (SV.ptr 1 bt 0 :: (SV.ptr 2 br 0 :: (SV.int IntKind.i64 (↑i : Int) :: (SV.ptr 3 b6 0 :: (SV.int IntKind.i64 (dAdd s.5 x.2 x.4).2 :: (SV.int IntKind.i64 (dAdd r.7 x.2 x.4).2 :: (rawR u 9 (SV.ptr 1 bt 0 :: (SV.ptr 3 b6 1 :: (SV.int IntKind.i64 x.2 :: (SV.ptr 3 b6 3 :: (SV.str x.4 :: (SV.int IntKind.i64 (dAdd s.5 x.2 x.4).2 :: (SV.ptr 2 br 0 :: (SV.ptr 3 b6 1 :: (SV.int IntKind.i64 x.2 :: (SV.ptr 3 b6 3 :: (SV.str x.4 :: (SV.int IntKind.i64 (dAdd r.7 x.2 x.4).2 :: (rawR u 155 [] 53))))))))))))) 134))))))))))
                   [Ent.mk (Loc.sl ao cap) (SObj.roL 4 encStepP bs (StepP.mk (0 : Int) (0 : Int) (ByteArray.mk #[]) (ByteArray.mk #[]))),
                    pkA bt psE (PS.mk s.1 s.2 ao_1 cap_1 (dAdd s.5 x.2 x.4).1 s.6), pkA br rpE (RPs.mk r.aoL r.2 r.3 r.4 ao_2 cap_2 (dAdd r.7 x.2 x.4).1),
                    Ent.mk (Loc.blk b6) (SObj.cells [SV.int IntKind.i64 x.1, SV.int IntKind.i64 x.2, SV.str x.3, SV.str x.4] (32 : TypeId))])) ∧
   (b6 = b6 ∧
    (true = true ∧
     bt = bt ∧
      ∃ (h : PS = PS),
       AdtIs (fun (s : PS) (b : Nat) ↦ packs (psE s b)) psE ∧
        psOk s ∧
         ∀ (ao_1 : Option Addr) (cap_1 : Nat),
          b6 = b6 ∧
           true = true ∧
            br = br ∧
             ∃ (h : RPs = RPs),
              AdtIs (fun (s : RPs) (b : Nat) ↦ packs (rpE s b)) rpE ∧
               rpOk r ∧
                ∀ (ao_2 : Option Addr) (cap_2 : Nat),
                 K (frmR [J0] (bodyOf Try.f3) 39)
                  (Sy.mk (SV.vec 0 ao (List.length bs) cap :: (SV.raw (u 1) :: (SV.raw (u 2) :: (SV.ptr 1 bt 0 :: (SV.ptr 2 br 0 :: (SV.int IntKind.i64 (↑i : Int) :: (SV.ptr 3 b6 0 :: (SV.int IntKind.i64 (dAdd s.5 x.2 x.4).2 :: (SV.int IntKind.i64 (dAdd r.7 x.2 x.4).2 :: (rawR u 9 (SV.ptr 1 bt 0 :: (SV.ptr 3 b6 1 :: (SV.int IntKind.i64 x.2 :: (SV.ptr 3 b6 3 :: (SV.str x.4 :: (SV.int IntKind.i64 (dAdd s.5 x.2 x.4).2 :: (SV.ptr 2 br 0 :: (SV.ptr 3 b6 1 :: (SV.int IntKind.i64 x.2 :: (SV.ptr 3 b6 3 :: (SV.str x.4 :: (SV.int IntKind.i64 (dAdd r.7 x.2 x.4).2 :: (rawR u 155 [] 53))))))))))))) 134))))))))))
                   [Ent.mk (Loc.sl ao cap) (SObj.roL 4 encStepP bs (StepP.mk (0 : Int) (0 : Int) (ByteArray.mk #[]) (ByteArray.mk #[]))),
                    pkA bt psE (PS.mk s.1 s.2 ao_1 cap_1 (dAdd s.5 x.2 x.4).1 s.6), pkA br rpE (RPs.mk r.aoL r.2 r.3 r.4 ao_2 cap_2 (dAdd r.7 x.2 x.4).1),
                    Ent.mk (Loc.blk b6) (SObj.cells [SV.int IntKind.i64 x.1, SV.int IntKind.i64 x.2, SV.str x.3, SV.str x.4] (32 : TypeId))])) ∧
     b6 = b6 ∧
      true = true ∧
       bt = bt ∧
        ∃ (h : PS = PS),
         AdtIs (fun (s : PS) (b : Nat) ↦ packs (psE s b)) psE ∧
          psOk s ∧
           ∀ (ao_1 : Option Addr) (cap_1 : Nat),
            true = true ∧
             br = br ∧
              ∃ (h : RPs = RPs),
               AdtIs (fun (s : RPs) (b : Nat) ↦ packs (rpE s b)) rpE ∧
                rpOk r ∧
                 ∀ (ao_2 : Option Addr) (cap_2 : Nat),
                  K (frmR [J0] (bodyOf Try.f3) 39)
                   (Sy.mk (SV.vec 0 ao (List.length bs) cap :: (SV.raw (u 1) :: (SV.raw (u 2) :: (SV.ptr 1 bt 0 :: (SV.ptr 2 br 0 :: (SV.int IntKind.i64 (↑i : Int) :: (SV.ptr 3 b6 0 :: (SV.int IntKind.i64 (dAdd s.5 x.2 x.4).2 :: (SV.int IntKind.i64 (dAdd r.7 x.2 x.4).2 :: (rawR u 9 (SV.ptr 1 bt 0 :: (SV.ptr 3 b6 1 :: (SV.int IntKind.i64 x.2 :: (SV.ptr 3 b6 3 :: (SV.str x.4 :: (SV.int IntKind.i64 (dAdd s.5 x.2 x.4).2 :: (SV.ptr 2 br 0 :: (SV.ptr 3 b6 1 :: (SV.int IntKind.i64 x.2 :: (SV.ptr 3 b6 3 :: (SV.str x.4 :: (SV.int IntKind.i64 (dAdd r.7 x.2 x.4).2 :: (rawR u 155 [] 53))))))))))))) 134))))))))))
                    [Ent.mk (Loc.sl ao cap) (SObj.roL 4 encStepP bs (StepP.mk (0 : Int) (0 : Int) (ByteArray.mk #[]) (ByteArray.mk #[]))),
                     pkA bt psE (PS.mk s.1 s.2 ao_1 cap_1 (dAdd s.5 x.2 x.4).1 s.6), pkA br rpE (RPs.mk r.aoL r.2 r.3 r.4 ao_2 cap_2 (dAdd r.7 x.2 x.4).1),
                     Ent.mk (Loc.blk b6) (SObj.cells [SV.int IntKind.i64 x.1, SV.int IntKind.i64 x.2, SV.str x.3, SV.str x.4] (32 : TypeId))])) ∧
    b6 = b6 ∧
     (true = true ∧
      bt = bt ∧
       ∃ (h : PS = PS),
        AdtIs (fun (s : PS) (b : Nat) ↦ packs (psE s b)) psE ∧
         psOk s ∧
          ∀ (ao_1 : Option Addr) (cap_1 : Nat),
           b6 = b6 ∧
            true = true ∧
             br = br ∧
              ∃ (h : RPs = RPs),
               AdtIs (fun (s : RPs) (b : Nat) ↦ packs (rpE s b)) rpE ∧
                rpOk r ∧
                 ∀ (ao_2 : Option Addr) (cap_2 : Nat),
                  K (frmR [J0] (bodyOf Try.f3) 39)
                   (Sy.mk (SV.vec 0 ao (List.length bs) cap :: (SV.raw (u 1) :: (SV.raw (u 2) :: (SV.ptr 1 bt 0 :: (SV.ptr 2 br 0 :: (SV.int IntKind.i64 (↑i : Int) :: (SV.ptr 3 b6 0 :: (SV.int IntKind.i64 (dAdd s.5 x.2 x.4).2 :: (SV.int IntKind.i64 (dAdd r.7 x.2 x.4).2 :: (rawR u 9 (SV.ptr 1 bt 0 :: (SV.ptr 3 b6 1 :: (SV.int IntKind.i64 x.2 :: (SV.ptr 3 b6 3 :: (SV.str x.4 :: (SV.int IntKind.i64 (dAdd s.5 x.2 x.4).2 :: (SV.ptr 2 br 0 :: (SV.ptr 3 b6 1 :: (SV.int IntKind.i64 x.2 :: (SV.ptr 3 b6 3 :: (SV.str x.4 :: (SV.int IntKind.i64 (dAdd r.7 x.2 x.4).2 :: (rawR u 155 [] 53))))))))))))) 134))))))))))
                    [Ent.mk (Loc.sl ao cap) (SObj.roL 4 encStepP bs (StepP.mk (0 : Int) (0 : Int) (ByteArray.mk #[]) (ByteArray.mk #[]))),
                     pkA bt psE (PS.mk s.1 s.2 ao_1 cap_1 (dAdd s.5 x.2 x.4).1 s.6), pkA br rpE (RPs.mk r.aoL r.2 r.3 r.4 ao_2 cap_2 (dAdd r.7 x.2 x.4).1),
                     Ent.mk (Loc.blk b6) (SObj.cells [SV.int IntKind.i64 x.1, SV.int IntKind.i64 x.2, SV.str x.3, SV.str x.4] (32 : TypeId))])) ∧
      b6 = b6 ∧
       true = true ∧
        bt = bt ∧
         ∃ (h : PS = PS),
          AdtIs (fun (s : PS) (b : Nat) ↦ packs (psE s b)) psE ∧
           psOk s ∧
            ∀ (ao_1 : Option Addr) (cap_1 : Nat),
             true = true ∧
              br = br ∧
               ∃ (h : RPs = RPs),
                AdtIs (fun (s : RPs) (b : Nat) ↦ packs (rpE s b)) rpE ∧
                 rpOk r ∧
                  ∀ (ao_2 : Option Addr) (cap_2 : Nat),
                   K (frmR [J0] (bodyOf Try.f3) 39)
                    (Sy.mk (SV.vec 0 ao (List.length bs) cap :: (SV.raw (u 1) :: (SV.raw (u 2) :: (SV.ptr 1 bt 0 :: (SV.ptr 2 br 0 :: (SV.int IntKind.i64 (↑i : Int) :: (SV.ptr 3 b6 0 :: (SV.int IntKind.i64 (dAdd s.5 x.2 x.4).2 :: (SV.int IntKind.i64 (dAdd r.7 x.2 x.4).2 :: (rawR u 9 (SV.ptr 1 bt 0 :: (SV.ptr 3 b6 1 :: (SV.int IntKind.i64 x.2 :: (SV.ptr 3 b6 3 :: (SV.str x.4 :: (SV.int IntKind.i64 (dAdd s.5 x.2 x.4).2 :: (SV.ptr 2 br 0 :: (SV.ptr 3 b6 1 :: (SV.int IntKind.i64 x.2 :: (SV.ptr 3 b6 3 :: (SV.str x.4 :: (SV.int IntKind.i64 (dAdd r.7 x.2 x.4).2 :: (rawR u 155 [] 53))))))))))))) 134))))))))))
                     [Ent.mk (Loc.sl ao cap) (SObj.roL 4 encStepP bs (StepP.mk (0 : Int) (0 : Int) (ByteArray.mk #[]) (ByteArray.mk #[]))),
                      pkA bt psE (PS.mk s.1 s.2 ao_1 cap_1 (dAdd s.5 x.2 x.4).1 s.6), pkA br rpE (RPs.mk r.aoL r.2 r.3 r.4 ao_2 cap_2 (dAdd r.7 x.2 x.4).1),
                      Ent.mk (Loc.blk b6) (SObj.cells [SV.int IntKind.i64 x.1, SV.int IntKind.i64 x.2, SV.str x.3, SV.str x.4] (32 : TypeId))])) ∧
  (b6 = b6 ∧
   (b6 = b6 ∧
    (true = true ∧
     bt = bt ∧
      ∃ (h : PS = PS),
       AdtIs (fun (s : PS) (b : Nat) ↦ packs (psE s b)) psE ∧
        psOk s ∧
         ∀ (ao_1 : Option Addr) (cap_1 : Nat),
          b6 = b6 ∧
           true = true ∧
            br = br ∧
             ∃ (h : RPs = RPs),
              AdtIs (fun (s : RPs) (b : Nat) ↦ packs (rpE s b)) rpE ∧
               rpOk r ∧
                ∀ (ao_2 : Option Addr) (cap_2 : Nat),
                 K (frmR [J0] (bodyOf Try.f3) 39)
                  (Sy.mk (SV.vec 0 ao (List.length bs) cap :: (SV.raw (u 1) :: (SV.raw (u 2) :: (SV.ptr 1 bt 0 :: (SV.ptr 2 br 0 :: (SV.int IntKind.i64 (↑i : Int) :: (SV.ptr 3 b6 0 :: (SV.int IntKind.i64 (dAdd s.5 x.2 x.4).2 :: (SV.int IntKind.i64 (dAdd r.7 x.2 x.4).2 :: (rawR u 9 (SV.ptr 1 bt 0 :: (SV.ptr 3 b6 1 :: (SV.int IntKind.i64 x.2 :: (SV.ptr 3 b6 3 :: (SV.str x.4 :: (SV.int IntKind.i64 (dAdd s.5 x.2 x.4).2 :: (SV.ptr 2 br 0 :: (SV.ptr 3 b6 1 :: (SV.int IntKind.i64 x.2 :: (SV.ptr 3 b6 3 :: (SV.str x.4 :: (SV.int IntKind.i64 (dAdd r.7 x.2 x.4).2 :: (rawR u 155 [] 53))))))))))))) 134))))))))))
                   [Ent.mk (Loc.sl ao cap) (SObj.roL 4 encStepP bs (StepP.mk (0 : Int) (0 : Int) (ByteArray.mk #[]) (ByteArray.mk #[]))),
                    pkA bt psE (PS.mk s.1 s.2 ao_1 cap_1 (dAdd s.5 x.2 x.4).1 s.6), pkA br rpE (RPs.mk r.aoL r.2 r.3 r.4 ao_2 cap_2 (dAdd r.7 x.2 x.4).1),
                    Ent.mk (Loc.blk b6) (SObj.cells [SV.int IntKind.i64 x.1, SV.int IntKind.i64 x.2, SV.str x.3, SV.str x.4] (32 : TypeId))])) ∧
     b6 = b6 ∧
      true = true ∧
       bt = bt ∧
        ∃ (h : PS = PS),
         AdtIs (fun (s : PS) (b : Nat) ↦ packs (psE s b)) psE ∧
          psOk s ∧
           ∀ (ao_1 : Option Addr) (cap_1 : Nat),
            true = true ∧
             br = br ∧
              ∃ (h : RPs = RPs),
               AdtIs (fun (s : RPs) (b : Nat) ↦ packs (rpE s b)) rpE ∧
                rpOk r ∧
                 ∀ (ao_2 : Option Addr) (cap_2 : Nat),
                  K (frmR [J0] (bodyOf Try.f3) 39)
                   (Sy.mk (SV.vec 0 ao (List.length bs) cap :: (SV.raw (u 1) :: (SV.raw (u 2) :: (SV.ptr 1 bt 0 :: (SV.ptr 2 br 0 :: (SV.int IntKind.i64 (↑i : Int) :: (SV.ptr 3 b6 0 :: (SV.int IntKind.i64 (dAdd s.5 x.2 x.4).2 :: (SV.int IntKind.i64 (dAdd r.7 x.2 x.4).2 :: (rawR u 9 (SV.ptr 1 bt 0 :: (SV.ptr 3 b6 1 :: (SV.int IntKind.i64 x.2 :: (SV.ptr 3 b6 3 :: (SV.str x.4 :: (SV.int IntKind.i64 (dAdd s.5 x.2 x.4).2 :: (SV.ptr 2 br 0 :: (SV.ptr 3 b6 1 :: (SV.int IntKind.i64 x.2 :: (SV.ptr 3 b6 3 :: (SV.str x.4 :: (SV.int IntKind.i64 (dAdd r.7 x.2 x.4).2 :: (rawR u 155 [] 53))))))))))))) 134))))))))))
                    [Ent.mk (Loc.sl ao cap) (SObj.roL 4 encStepP bs (StepP.mk (0 : Int) (0 : Int) (ByteArray.mk #[]) (ByteArray.mk #[]))),
                     pkA bt psE (PS.mk s.1 s.2 ao_1 cap_1 (dAdd s.5 x.2 x.4).1 s.6), pkA br rpE (RPs.mk r.aoL r.2 r.3 r.4 ao_2 cap_2 (dAdd r.7 x.2 x.4).1),
                     Ent.mk (Loc.blk b6) (SObj.cells [SV.int IntKind.i64 x.1, SV.int IntKind.i64 x.2, SV.str x.3, SV.str x.4] (32 : TypeId))])) ∧
    b6 = b6 ∧
     b6 = b6 ∧
      true = true ∧
       bt = bt ∧
        ∃ (h : PS = PS),
         AdtIs (fun (s : PS) (b : Nat) ↦ packs (psE s b)) psE ∧
          psOk s ∧
           ∀ (ao_1 : Option Addr) (cap_1 : Nat),
            true = true ∧
             br = br ∧
              ∃ (h : RPs = RPs),
               AdtIs (fun (s : RPs) (b : Nat) ↦ packs (rpE s b)) rpE ∧
                rpOk r ∧
                 ∀ (ao_2 : Option Addr) (cap_2 : Nat),
                  K (frmR [J0] (bodyOf Try.f3) 39)
                   (Sy.mk (SV.vec 0 ao (List.length bs) cap :: (SV.raw (u 1) :: (SV.raw (u 2) :: (SV.ptr 1 bt 0 :: (SV.ptr 2 br 0 :: (SV.int IntKind.i64 (↑i : Int) :: (SV.ptr 3 b6 0 :: (SV.int IntKind.i64 (dAdd s.5 x.2 x.4).2 :: (SV.int IntKind.i64 (dAdd r.7 x.2 x.4).2 :: (rawR u 9 (SV.ptr 1 bt 0 :: (SV.ptr 3 b6 1 :: (SV.int IntKind.i64 x.2 :: (SV.ptr 3 b6 3 :: (SV.str x.4 :: (SV.int IntKind.i64 (dAdd s.5 x.2 x.4).2 :: (SV.ptr 2 br 0 :: (SV.ptr 3 b6 1 :: (SV.int IntKind.i64 x.2 :: (SV.ptr 3 b6 3 :: (SV.str x.4 :: (SV.int IntKind.i64 (dAdd r.7 x.2 x.4).2 :: (rawR u 155 [] 53))))))))))))) 134))))))))))
                    [Ent.mk (Loc.sl ao cap) (SObj.roL 4 encStepP bs (StepP.mk (0 : Int) (0 : Int) (ByteArray.mk #[]) (ByteArray.mk #[]))),
                     pkA bt psE (PS.mk s.1 s.2 ao_1 cap_1 (dAdd s.5 x.2 x.4).1 s.6), pkA br rpE (RPs.mk r.aoL r.2 r.3 r.4 ao_2 cap_2 (dAdd r.7 x.2 x.4).1),
                     Ent.mk (Loc.blk b6) (SObj.cells [SV.int IntKind.i64 x.1, SV.int IntKind.i64 x.2, SV.str x.3, SV.str x.4] (32 : TypeId))])) ∧
   b6 = b6 ∧
    (b6 = b6 ∧
     (true = true ∧
      bt = bt ∧
       ∃ (h : PS = PS),
        AdtIs (fun (s : PS) (b : Nat) ↦ packs (psE s b)) psE ∧
         psOk s ∧
          ∀ (ao_1 : Option Addr) (cap_1 : Nat),
           b6 = b6 ∧
            true = true ∧
             br = br ∧
              ∃ (h : RPs = RPs),
               AdtIs (fun (s : RPs) (b : Nat) ↦ packs (rpE s b)) rpE ∧
                rpOk r ∧
                 ∀ (ao_2 : Option Addr) (cap_2 : Nat),
                  K (frmR [J0] (bodyOf Try.f3) 39)
                   (Sy.mk (SV.vec 0 ao (List.length bs) cap :: (SV.raw (u 1) :: (SV.raw (u 2) :: (SV.ptr 1 bt 0 :: (SV.ptr 2 br 0 :: (SV.int IntKind.i64 (↑i : Int) :: (SV.ptr 3 b6 0 :: (SV.int IntKind.i64 (dAdd s.5 x.2 x.4).2 :: (SV.int IntKind.i64 (dAdd r.7 x.2 x.4).2 :: (rawR u 9 (SV.ptr 1 bt 0 :: (SV.ptr 3 b6 1 :: (SV.int IntKind.i64 x.2 :: (SV.ptr 3 b6 3 :: (SV.str x.4 :: (SV.int IntKind.i64 (dAdd s.5 x.2 x.4).2 :: (SV.ptr 2 br 0 :: (SV.ptr 3 b6 1 :: (SV.int IntKind.i64 x.2 :: (SV.ptr 3 b6 3 :: (SV.str x.4 :: (SV.int IntKind.i64 (dAdd r.7 x.2 x.4).2 :: (rawR u 155 [] 53))))))))))))) 134))))))))))
                    [Ent.mk (Loc.sl ao cap) (SObj.roL 4 encStepP bs (StepP.mk (0 : Int) (0 : Int) (ByteArray.mk #[]) (ByteArray.mk #[]))),
                     pkA bt psE (PS.mk s.1 s.2 ao_1 cap_1 (dAdd s.5 x.2 x.4).1 s.6), pkA br rpE (RPs.mk r.aoL r.2 r.3 r.4 ao_2 cap_2 (dAdd r.7 x.2 x.4).1),
                     Ent.mk (Loc.blk b6) (SObj.cells [SV.int IntKind.i64 x.1, SV.int IntKind.i64 x.2, SV.str x.3, SV.str x.4] (32 : TypeId))])) ∧
      b6 = b6 ∧
       true = true ∧
        bt = bt ∧
         ∃ (h : PS = PS),
          AdtIs (fun (s : PS) (b : Nat) ↦ packs (psE s b)) psE ∧
           psOk s ∧
            ∀ (ao_1 : Option Addr) (cap_1 : Nat),
             true = true ∧
              br = br ∧
               ∃ (h : RPs = RPs),
                AdtIs (fun (s : RPs) (b : Nat) ↦ packs (rpE s b)) rpE ∧
                 rpOk r ∧
                  ∀ (ao_2 : Option Addr) (cap_2 : Nat),
                   K (frmR [J0] (bodyOf Try.f3) 39)
                    (Sy.mk (SV.vec 0 ao (List.length bs) cap :: (SV.raw (u 1) :: (SV.raw (u 2) :: (SV.ptr 1 bt 0 :: (SV.ptr 2 br 0 :: (SV.int IntKind.i64 (↑i : Int) :: (SV.ptr 3 b6 0 :: (SV.int IntKind.i64 (dAdd s.5 x.2 x.4).2 :: (SV.int IntKind.i64 (dAdd r.7 x.2 x.4).2 :: (rawR u 9 (SV.ptr 1 bt 0 :: (SV.ptr 3 b6 1 :: (SV.int IntKind.i64 x.2 :: (SV.ptr 3 b6 3 :: (SV.str x.4 :: (SV.int IntKind.i64 (dAdd s.5 x.2 x.4).2 :: (SV.ptr 2 br 0 :: (SV.ptr 3 b6 1 :: (SV.int IntKind.i64 x.2 :: (SV.ptr 3 b6 3 :: (SV.str x.4 :: (SV.int IntKind.i64 (dAdd r.7 x.2 x.4).2 :: (rawR u 155 [] 53))))))))))))) 134))))))))))
                     [Ent.mk (Loc.sl ao cap) (SObj.roL 4 encStepP bs (StepP.mk (0 : Int) (0 : Int) (ByteArray.mk #[]) (ByteArray.mk #[]))),
                      pkA bt psE (PS.mk s.1 s.2 ao_1 cap_1 (dAdd s.5 x.2 x.4).1 s.6), pkA br rpE (RPs.mk r.aoL r.2 r.3 r.4 ao_2 cap_2 (dAdd r.7 x.2 x.4).1),
                      Ent.mk (Loc.blk b6) (SObj.cells [SV.int IntKind.i64 x.1, SV.int IntKind.i64 x.2, SV.str x.3, SV.str x.4] (32 : TypeId))])) ∧
     b6 = b6 ∧
      b6 = b6 ∧
       true = true ∧
        bt = bt ∧
         ∃ (h : PS = PS),
          AdtIs (fun (s : PS) (b : Nat) ↦ packs (psE s b)) psE ∧
           psOk s ∧
            ∀ (ao_1 : Option Addr) (cap_1 : Nat),
             true = true ∧
              br = br ∧
               ∃ (h : RPs = RPs),
                AdtIs (fun (s : RPs) (b : Nat) ↦ packs (rpE s b)) rpE ∧
                 rpOk r ∧
                  ∀ (ao_2 : Option Addr) (cap_2 : Nat),
                   K (frmR [J0] (bodyOf Try.f3) 39)
                    (Sy.mk (SV.vec 0 ao (List.length bs) cap :: (SV.raw (u 1) :: (SV.raw (u 2) :: (SV.ptr 1 bt 0 :: (SV.ptr 2 br 0 :: (SV.int IntKind.i64 (↑i : Int) :: (SV.ptr 3 b6 0 :: (SV.int IntKind.i64 (dAdd s.5 x.2 x.4).2 :: (SV.int IntKind.i64 (dAdd r.7 x.2 x.4).2 :: (rawR u 9 (SV.ptr 1 bt 0 :: (SV.ptr 3 b6 1 :: (SV.int IntKind.i64 x.2 :: (SV.ptr 3 b6 3 :: (SV.str x.4 :: (SV.int IntKind.i64 (dAdd s.5 x.2 x.4).2 :: (SV.ptr 2 br 0 :: (SV.ptr 3 b6 1 :: (SV.int IntKind.i64 x.2 :: (SV.ptr 3 b6 3 :: (SV.str x.4 :: (SV.int IntKind.i64 (dAdd r.7 x.2 x.4).2 :: (rawR u 155 [] 53))))))))))))) 134))))))))))
                     [Ent.mk (Loc.sl ao cap) (SObj.roL 4 encStepP bs (StepP.mk (0 : Int) (0 : Int) (ByteArray.mk #[]) (ByteArray.mk #[]))),
                      pkA bt psE (PS.mk s.1 s.2 ao_1 cap_1 (dAdd s.5 x.2 x.4).1 s.6), pkA br rpE (RPs.mk r.aoL r.2 r.3 r.4 ao_2 cap_2 (dAdd r.7 x.2 x.4).1),
                      Ent.mk (Loc.blk b6) (SObj.cells [SV.int IntKind.i64 x.1, SV.int IntKind.i64 x.2, SV.str x.3, SV.str x.4] (32 : TypeId))])) ∧
 (b6 = b6 ∧
  (b6 = b6 ∧
   (true = true ∧
    bt = bt ∧
     ∃ (h : PS = PS),
      AdtIs (fun (s : PS) (b : Nat) ↦ packs (psE s b)) psE ∧
       psOk s ∧
        ∀ (ao_1 : Option Addr) (cap_1 : Nat),
         (b6 = b6 ∧
          b6 = b6 ∧
           true = true ∧
            br = br ∧
             ∃ (h : RPs = RPs),
              AdtIs (fun (s : RPs) (b : Nat) ↦ packs (rpE s b)) rpE ∧
               rpOk r ∧
                ∀ (ao_2 : Option Addr) (cap_2 : Nat),
                 K (frmR [J0] (bodyOf Try.f3) 39)
                  (Sy.mk (SV.vec 0 ao (List.length bs) cap :: (SV.raw (u 1) :: (SV.raw (u 2) :: (SV.ptr 1 bt 0 :: (SV.ptr 2 br 0 :: (SV.int IntKind.i64 (↑i : Int) :: (SV.ptr 3 b6 0 :: (SV.int IntKind.i64 (dAdd s.5 x.2 x.4).2 :: (SV.int IntKind.i64 (dAdd r.7 x.2 x.4).2 :: (rawR u 9 (SV.ptr 1 bt 0 :: (SV.ptr 3 b6 1 :: (SV.int IntKind.i64 x.2 :: (SV.ptr 3 b6 3 :: (SV.str x.4 :: (SV.int IntKind.i64 (dAdd s.5 x.2 x.4).2 :: (SV.ptr 2 br 0 :: (SV.ptr 3 b6 1 :: (SV.int IntKind.i64 x.2 :: (SV.ptr 3 b6 3 :: (SV.str x.4 :: (SV.int IntKind.i64 (dAdd r.7 x.2 x.4).2 :: (rawR u 155 [] 53))))))))))))) 134))))))))))
                   [Ent.mk (Loc.sl ao cap) (SObj.roL 4 encStepP bs (StepP.mk (0 : Int) (0 : Int) (ByteArray.mk #[]) (ByteArray.mk #[]))),
                    pkA bt psE (PS.mk s.1 s.2 ao_1 cap_1 (dAdd s.5 x.2 x.4).1 s.6), pkA br rpE (RPs.mk r.aoL r.2 r.3 r.4 ao_2 cap_2 (dAdd r.7 x.2 x.4).1),
                    Ent.mk (Loc.blk b6) (SObj.cells [SV.int IntKind.i64 x.1, SV.int IntKind.i64 x.2, SV.str x.3, SV.str x.4] (32 : TypeId))])) ∧
          b6 = b6 ∧
           b6 = b6 ∧
            true = true ∧
             br = br ∧
              ∃ (h : RPs = RPs),
               AdtIs (fun (s : RPs) (b : Nat) ↦ packs (rpE s b)) rpE ∧
                rpOk r ∧
                 ∀ (ao_2 : Option Addr) (cap_2 : Nat),
                  K (frmR [J0] (bodyOf Try.f3) 39)
                   (Sy.mk (SV.vec 0 ao (List.length bs) cap :: (SV.raw (u 1) :: (SV.raw (u 2) :: (SV.ptr 1 bt 0 :: (SV.ptr 2 br 0 :: (SV.int IntKind.i64 (↑i : Int) :: (SV.ptr 3 b6 0 :: (SV.int IntKind.i64 (dAdd s.5 x.2 x.4).2 :: (SV.int IntKind.i64 (dAdd r.7 x.2 x.4).2 :: (rawR u 9 (SV.ptr 1 bt 0 :: (SV.ptr 3 b6 1 :: (SV.int IntKind.i64 x.2 :: (SV.ptr 3 b6 3 :: (SV.str x.4 :: (SV.int IntKind.i64 (dAdd s.5 x.2 x.4).2 :: (SV.ptr 2 br 0 :: (SV.ptr 3 b6 1 :: (SV.int IntKind.i64 x.2 :: (SV.ptr 3 b6 3 :: (SV.str x.4 :: (SV.int IntKind.i64 (dAdd r.7 x.2 x.4).2 :: (rawR u 155 [] 53))))))))))))) 134))))))))))
                    [Ent.mk (Loc.sl ao cap) (SObj.roL 4 encStepP bs (StepP.mk (0 : Int) (0 : Int) (ByteArray.mk #[]) (ByteArray.mk #[]))),
                     pkA bt psE (PS.mk s.1 s.2 ao_1 cap_1 (dAdd s.5 x.2 x.4).1 s.6), pkA br rpE (RPs.mk r.aoL r.2 r.3 r.4 ao_2 cap_2 (dAdd r.7 x.2 x.4).1),
                     Ent.mk (Loc.blk b6) (SObj.cells [SV.int IntKind.i64 x.1, SV.int IntKind.i64 x.2, SV.str x.3, SV.str x.4] (32 : TypeId))])) ∧
    (b6 = b6 ∧
     (true = true ∧
      bt = bt ∧
       ∃ (h : PS = PS),
        AdtIs (fun (s : PS) (b : Nat) ↦ packs (psE s b)) psE ∧
         psOk s ∧
          ∀ (ao_1 : Option Addr) (cap_1 : Nat),
           b6 = b6 ∧
            true = true ∧
             br = br ∧
              ∃ (h : RPs = RPs),
               AdtIs (fun (s : RPs) (b : Nat) ↦ packs (rpE s b)) rpE ∧
                rpOk r ∧
                 ∀ (ao_2 : Option Addr) (cap_2 : Nat),
                  K (frmR [J0] (bodyOf Try.f3) 39)
                   (Sy.mk (SV.vec 0 ao (List.length bs) cap :: (SV.raw (u 1) :: (SV.raw (u 2) :: (SV.ptr 1 bt 0 :: (SV.ptr 2 br 0 :: (SV.int IntKind.i64 (↑i : Int) :: (SV.ptr 3 b6 0 :: (SV.int IntKind.i64 (dAdd s.5 x.2 x.4).2 :: (SV.int IntKind.i64 (dAdd r.7 x.2 x.4).2 :: (rawR u 9 (SV.ptr 1 bt 0 :: (SV.ptr 3 b6 1 :: (SV.int IntKind.i64 x.2 :: (SV.ptr 3 b6 3 :: (SV.str x.4 :: (SV.int IntKind.i64 (dAdd s.5 x.2 x.4).2 :: (SV.ptr 2 br 0 :: (SV.ptr 3 b6 1 :: (SV.int IntKind.i64 x.2 :: (SV.ptr 3 b6 3 :: (SV.str x.4 :: (SV.int IntKind.i64 (dAdd r.7 x.2 x.4).2 :: (rawR u 155 [] 53))))))))))))) 134))))))))))
                    [Ent.mk (Loc.sl ao cap) (SObj.roL 4 encStepP bs (StepP.mk (0 : Int) (0 : Int) (ByteArray.mk #[]) (ByteArray.mk #[]))),
                     pkA bt psE (PS.mk s.1 s.2 ao_1 cap_1 (dAdd s.5 x.2 x.4).1 s.6), pkA br rpE (RPs.mk r.aoL r.2 r.3 r.4 ao_2 cap_2 (dAdd r.7 x.2 x.4).1),
                     Ent.mk (Loc.blk b6) (SObj.cells [SV.int IntKind.i64 x.1, SV.int IntKind.i64 x.2, SV.str x.3, SV.str x.4] (32 : TypeId))])) ∧
      b6 = b6 ∧
       true = true ∧
        bt = bt ∧
         ∃ (h : PS = PS),
          AdtIs (fun (s : PS) (b : Nat) ↦ packs (psE s b)) psE ∧
           psOk s ∧
            ∀ (ao_1 : Option Addr) (cap_1 : Nat),
             true = true ∧
              br = br ∧
               ∃ (h : RPs = RPs),
                AdtIs (fun (s : RPs) (b : Nat) ↦ packs (rpE s b)) rpE ∧
                 rpOk r ∧
                  ∀ (ao_2 : Option Addr) (cap_2 : Nat),
                   K (frmR [J0] (bodyOf Try.f3) 39)
                    (Sy.mk (SV.vec 0 ao (List.length bs) cap :: (SV.raw (u 1) :: (SV.raw (u 2) :: (SV.ptr 1 bt 0 :: (SV.ptr 2 br 0 :: (SV.int IntKind.i64 (↑i : Int) :: (SV.ptr 3 b6 0 :: (SV.int IntKind.i64 (dAdd s.5 x.2 x.4).2 :: (SV.int IntKind.i64 (dAdd r.7 x.2 x.4).2 :: (rawR u 9 (SV.ptr 1 bt 0 :: (SV.ptr 3 b6 1 :: (SV.int IntKind.i64 x.2 :: (SV.ptr 3 b6 3 :: (SV.str x.4 :: (SV.int IntKind.i64 (dAdd s.5 x.2 x.4).2 :: (SV.ptr 2 br 0 :: (SV.ptr 3 b6 1 :: (SV.int IntKind.i64 x.2 :: (SV.ptr 3 b6 3 :: (SV.str x.4 :: (SV.int IntKind.i64 (dAdd r.7 x.2 x.4).2 :: (rawR u 155 [] 53))))))))))))) 134))))))))))
                     [Ent.mk (Loc.sl ao cap) (SObj.roL 4 encStepP bs (StepP.mk (0 : Int) (0 : Int) (ByteArray.mk #[]) (ByteArray.mk #[]))),
                      pkA bt psE (PS.mk s.1 s.2 ao_1 cap_1 (dAdd s.5 x.2 x.4).1 s.6), pkA br rpE (RPs.mk r.aoL r.2 r.3 r.4 ao_2 cap_2 (dAdd r.7 x.2 x.4).1),
                      Ent.mk (Loc.blk b6) (SObj.cells [SV.int IntKind.i64 x.1, SV.int IntKind.i64 x.2, SV.str x.3, SV.str x.4] (32 : TypeId))])) ∧
     b6 = b6 ∧
      (true = true ∧
       bt = bt ∧
        ∃ (h : PS = PS),
         AdtIs (fun (s : PS) (b : Nat) ↦ packs (psE s b)) psE ∧
          psOk s ∧
           ∀ (ao_1 : Option Addr) (cap_1 : Nat),
            b6 = b6 ∧
             true = true ∧
              br = br ∧
               ∃ (h : RPs = RPs),
                AdtIs (fun (s : RPs) (b : Nat) ↦ packs (rpE s b)) rpE ∧
                 rpOk r ∧
                  ∀ (ao_2 : Option Addr) (cap_2 : Nat),
                   K (frmR [J0] (bodyOf Try.f3) 39)
                    (Sy.mk (SV.vec 0 ao (List.length bs) cap :: (SV.raw (u 1) :: (SV.raw (u 2) :: (SV.ptr 1 bt 0 :: (SV.ptr 2 br 0 :: (SV.int IntKind.i64 (↑i : Int) :: (SV.ptr 3 b6 0 :: (SV.int IntKind.i64 (dAdd s.5 x.2 x.4).2 :: (SV.int IntKind.i64 (dAdd r.7 x.2 x.4).2 :: (rawR u 9 (SV.ptr 1 bt 0 :: (SV.ptr 3 b6 1 :: (SV.int IntKind.i64 x.2 :: (SV.ptr 3 b6 3 :: (SV.str x.4 :: (SV.int IntKind.i64 (dAdd s.5 x.2 x.4).2 :: (SV.ptr 2 br 0 :: (SV.ptr 3 b6 1 :: (SV.int IntKind.i64 x.2 :: (SV.ptr 3 b6 3 :: (SV.str x.4 :: (SV.int IntKind.i64 (dAdd r.7 x.2 x.4).2 :: (rawR u 155 [] 53))))))))))))) 134))))))))))
                     [Ent.mk (Loc.sl ao cap) (SObj.roL 4 encStepP bs (StepP.mk (0 : Int) (0 : Int) (ByteArray.mk #[]) (ByteArray.mk #[]))),
                      pkA bt psE (PS.mk s.1 s.2 ao_1 cap_1 (dAdd s.5 x.2 x.4).1 s.6), pkA br rpE (RPs.mk r.aoL r.2 r.3 r.4 ao_2 cap_2 (dAdd r.7 x.2 x.4).1),
                      Ent.mk (Loc.blk b6) (SObj.cells [SV.int IntKind.i64 x.1, SV.int IntKind.i64 x.2, SV.str x.3, SV.str x.4] (32 : TypeId))])) ∧
       b6 = b6 ∧
        true = true ∧
         bt = bt ∧
          ∃ (h : PS = PS),
           AdtIs (fun (s : PS) (b : Nat) ↦ packs (psE s b)) psE ∧
            psOk s ∧
             ∀ (ao_1 : Option Addr) (cap_1 : Nat),
              true = true ∧
               br = br ∧
                ∃ (h : RPs = RPs),
                 AdtIs (fun (s : RPs) (b : Nat) ↦ packs (rpE s b)) rpE ∧
                  rpOk r ∧
                   ∀ (ao_2 : Option Addr) (cap_2 : Nat),
                    K (frmR [J0] (bodyOf Try.f3) 39)
                     (Sy.mk (SV.vec 0 ao (List.length bs) cap :: (SV.raw (u 1) :: (SV.raw (u 2) :: (SV.ptr 1 bt 0 :: (SV.ptr 2 br 0 :: (SV.int IntKind.i64 (↑i : Int) :: (SV.ptr 3 b6 0 :: (SV.int IntKind.i64 (dAdd s.5 x.2 x.4).2 :: (SV.int IntKind.i64 (dAdd r.7 x.2 x.4).2 :: (rawR u 9 (SV.ptr 1 bt 0 :: (SV.ptr 3 b6 1 :: (SV.int IntKind.i64 x.2 :: (SV.ptr 3 b6 3 :: (SV.str x.4 :: (SV.int IntKind.i64 (dAdd s.5 x.2 x.4).2 :: (SV.ptr 2 br 0 :: (SV.ptr 3 b6 1 :: (SV.int IntKind.i64 x.2 :: (SV.ptr 3 b6 3 :: (SV.str x.4 :: (SV.int IntKind.i64 (dAdd r.7 x.2 x.4).2 :: (rawR u 155 [] 53))))))))))))) 134))))))))))
                      [Ent.mk (Loc.sl ao cap) (SObj.roL 4 encStepP bs (StepP.mk (0 : Int) (0 : Int) (ByteArray.mk #[]) (ByteArray.mk #[]))),
                       pkA bt psE (PS.mk s.1 s.2 ao_1 cap_1 (dAdd s.5 x.2 x.4).1 s.6), pkA br rpE (RPs.mk r.aoL r.2 r.3 r.4 ao_2 cap_2 (dAdd r.7 x.2 x.4).1),
                       Ent.mk (Loc.blk b6) (SObj.cells [SV.int IntKind.i64 x.1, SV.int IntKind.i64 x.2, SV.str x.3, SV.str x.4] (32 : TypeId))])) ∧
   (b6 = b6 ∧
    (b6 = b6 ∧
     (true = true ∧
      bt = bt ∧
       ∃ (h : PS = PS),
        AdtIs (fun (s : PS) (b : Nat) ↦ packs (psE s b)) psE ∧
         psOk s ∧
          ∀ (ao_1 : Option Addr) (cap_1 : Nat),
           b6 = b6 ∧
            true = true ∧
             br = br ∧
              ∃ (h : RPs = RPs),
               AdtIs (fun (s : RPs) (b : Nat) ↦ packs (rpE s b)) rpE ∧
                rpOk r ∧
                 ∀ (ao_2 : Option Addr) (cap_2 : Nat),
                  K (frmR [J0] (bodyOf Try.f3) 39)
                   (Sy.mk (SV.vec 0 ao (List.length bs) cap :: (SV.raw (u 1) :: (SV.raw (u 2) :: (SV.ptr 1 bt 0 :: (SV.ptr 2 br 0 :: (SV.int IntKind.i64 (↑i : Int) :: (SV.ptr 3 b6 0 :: (SV.int IntKind.i64 (dAdd s.5 x.2 x.4).2 :: (SV.int IntKind.i64 (dAdd r.7 x.2 x.4).2 :: (rawR u 9 (SV.ptr 1 bt 0 :: (SV.ptr 3 b6 1 :: (SV.int IntKind.i64 x.2 :: (SV.ptr 3 b6 3 :: (SV.str x.4 :: (SV.int IntKind.i64 (dAdd s.5 x.2 x.4).2 :: (SV.ptr 2 br 0 :: (SV.ptr 3 b6 1 :: (SV.int IntKind.i64 x.2 :: (SV.ptr 3 b6 3 :: (SV.str x.4 :: (SV.int IntKind.i64 (dAdd r.7 x.2 x.4).2 :: (rawR u 155 [] 53))))))))))))) 134))))))))))
                    [Ent.mk (Loc.sl ao cap) (SObj.roL 4 encStepP bs (StepP.mk (0 : Int) (0 : Int) (ByteArray.mk #[]) (ByteArray.mk #[]))),
                     pkA bt psE (PS.mk s.1 s.2 ao_1 cap_1 (dAdd s.5 x.2 x.4).1 s.6), pkA br rpE (RPs.mk r.aoL r.2 r.3 r.4 ao_2 cap_2 (dAdd r.7 x.2 x.4).1),
                     Ent.mk (Loc.blk b6) (SObj.cells [SV.int IntKind.i64 x.1, SV.int IntKind.i64 x.2, SV.str x.3, SV.str x.4] (32 : TypeId))])) ∧
      b6 = b6 ∧
       true = true ∧
        bt = bt ∧
         ∃ (h : PS = PS),
          AdtIs (fun (s : PS) (b : Nat) ↦ packs (psE s b)) psE ∧
           psOk s ∧
            ∀ (ao_1 : Option Addr) (cap_1 : Nat),
             true = true ∧
              br = br ∧
               ∃ (h : RPs = RPs),
                AdtIs (fun (s : RPs) (b : Nat) ↦ packs (rpE s b)) rpE ∧
                 rpOk r ∧
                  ∀ (ao_2 : Option Addr) (cap_2 : Nat),
                   K (frmR [J0] (bodyOf Try.f3) 39)
                    (Sy.mk (SV.vec 0 ao (List.length bs) cap :: (SV.raw (u 1) :: (SV.raw (u 2) :: (SV.ptr 1 bt 0 :: (SV.ptr 2 br 0 :: (SV.int IntKind.i64 (↑i : Int) :: (SV.ptr 3 b6 0 :: (SV.int IntKind.i64 (dAdd s.5 x.2 x.4).2 :: (SV.int IntKind.i64 (dAdd r.7 x.2 x.4).2 :: (rawR u 9 (SV.ptr 1 bt 0 :: (SV.ptr 3 b6 1 :: (SV.int IntKind.i64 x.2 :: (SV.ptr 3 b6 3 :: (SV.str x.4 :: (SV.int IntKind.i64 (dAdd s.5 x.2 x.4).2 :: (SV.ptr 2 br 0 :: (SV.ptr 3 b6 1 :: (SV.int IntKind.i64 x.2 :: (SV.ptr 3 b6 3 :: (SV.str x.4 :: (SV.int IntKind.i64 (dAdd r.7 x.2 x.4).2 :: (rawR u 155 [] 53))))))))))))) 134))))))))))
                     [Ent.mk (Loc.sl ao cap) (SObj.roL 4 encStepP bs (StepP.mk (0 : Int) (0 : Int) (ByteArray.mk #[]) (ByteArray.mk #[]))),
                      pkA bt psE (PS.mk s.1 s.2 ao_1 cap_1 (dAdd s.5 x.2 x.4).1 s.6), pkA br rpE (RPs.mk r.aoL r.2 r.3 r.4 ao_2 cap_2 (dAdd r.7 x.2 x.4).1),
                      Ent.mk (Loc.blk b6) (SObj.cells [SV.int IntKind.i64 x.1, SV.int IntKind.i64 x.2, SV.str x.3, SV.str x.4] (32 : TypeId))])) ∧
     b6 = b6 ∧
      b6 = b6 ∧
       true = true ∧
        bt = bt ∧
         ∃ (h : PS = PS),
          AdtIs (fun (s : PS) (b : Nat) ↦ packs (psE s b)) psE ∧
           psOk s ∧
            ∀ (ao_1 : Option Addr) (cap_1 : Nat),
             true = true ∧
              br = br ∧
               ∃ (h : RPs = RPs),
                AdtIs (fun (s : RPs) (b : Nat) ↦ packs (rpE s b)) rpE ∧
                 rpOk r ∧
                  ∀ (ao_2 : Option Addr) (cap_2 : Nat),
                   K (frmR [J0] (bodyOf Try.f3) 39)
                    (Sy.mk (SV.vec 0 ao (List.length bs) cap :: (SV.raw (u 1) :: (SV.raw (u 2) :: (SV.ptr 1 bt 0 :: (SV.ptr 2 br 0 :: (SV.int IntKind.i64 (↑i : Int) :: (SV.ptr 3 b6 0 :: (SV.int IntKind.i64 (dAdd s.5 x.2 x.4).2 :: (SV.int IntKind.i64 (dAdd r.7 x.2 x.4).2 :: (rawR u 9 (SV.ptr 1 bt 0 :: (SV.ptr 3 b6 1 :: (SV.int IntKind.i64 x.2 :: (SV.ptr 3 b6 3 :: (SV.str x.4 :: (SV.int IntKind.i64 (dAdd s.5 x.2 x.4).2 :: (SV.ptr 2 br 0 :: (SV.ptr 3 b6 1 :: (SV.int IntKind.i64 x.2 :: (SV.ptr 3 b6 3 :: (SV.str x.4 :: (SV.int IntKind.i64 (dAdd r.7 x.2 x.4).2 :: (rawR u 155 [] 53))))))))))))) 134))))))))))
                     [Ent.mk (Loc.sl ao cap) (SObj.roL 4 encStepP bs (StepP.mk (0 : Int) (0 : Int) (ByteArray.mk #[]) (ByteArray.mk #[]))),
                      pkA bt psE (PS.mk s.1 s.2 ao_1 cap_1 (dAdd s.5 x.2 x.4).1 s.6), pkA br rpE (RPs.mk r.aoL r.2 r.3 r.4 ao_2 cap_2 (dAdd r.7 x.2 x.4).1),
                      Ent.mk (Loc.blk b6) (SObj.cells [SV.int IntKind.i64 x.1, SV.int IntKind.i64 x.2, SV.str x.3, SV.str x.4] (32 : TypeId))])) ∧
    b6 = b6 ∧
     (b6 = b6 ∧
      (true = true ∧
       bt = bt ∧
        ∃ (h : PS = PS),
         AdtIs (fun (s : PS) (b : Nat) ↦ packs (psE s b)) psE ∧
          psOk s ∧
           ∀ (ao_1 : Option Addr) (cap_1 : Nat),
            b6 = b6 ∧
             true = true ∧
              br = br ∧
               ∃ (h : RPs = RPs),
                AdtIs (fun (s : RPs) (b : Nat) ↦ packs (rpE s b)) rpE ∧
                 rpOk r ∧
                  ∀ (ao_2 : Option Addr) (cap_2 : Nat),
                   K (frmR [J0] (bodyOf Try.f3) 39)
                    (Sy.mk (SV.vec 0 ao (List.length bs) cap :: (SV.raw (u 1) :: (SV.raw (u 2) :: (SV.ptr 1 bt 0 :: (SV.ptr 2 br 0 :: (SV.int IntKind.i64 (↑i : Int) :: (SV.ptr 3 b6 0 :: (SV.int IntKind.i64 (dAdd s.5 x.2 x.4).2 :: (SV.int IntKind.i64 (dAdd r.7 x.2 x.4).2 :: (rawR u 9 (SV.ptr 1 bt 0 :: (SV.ptr 3 b6 1 :: (SV.int IntKind.i64 x.2 :: (SV.ptr 3 b6 3 :: (SV.str x.4 :: (SV.int IntKind.i64 (dAdd s.5 x.2 x.4).2 :: (SV.ptr 2 br 0 :: (SV.ptr 3 b6 1 :: (SV.int IntKind.i64 x.2 :: (SV.ptr 3 b6 3 :: (SV.str x.4 :: (SV.int IntKind.i64 (dAdd r.7 x.2 x.4).2 :: (rawR u 155 [] 53))))))))))))) 134))))))))))
                     [Ent.mk (Loc.sl ao cap) (SObj.roL 4 encStepP bs (StepP.mk (0 : Int) (0 : Int) (ByteArray.mk #[]) (ByteArray.mk #[]))),
                      pkA bt psE (PS.mk s.1 s.2 ao_1 cap_1 (dAdd s.5 x.2 x.4).1 s.6), pkA br rpE (RPs.mk r.aoL r.2 r.3 r.4 ao_2 cap_2 (dAdd r.7 x.2 x.4).1),
                      Ent.mk (Loc.blk b6) (SObj.cells [SV.int IntKind.i64 x.1, SV.int IntKind.i64 x.2, SV.str x.3, SV.str x.4] (32 : TypeId))])) ∧
       b6 = b6 ∧
        true = true ∧
         bt = bt ∧
          ∃ (h : PS = PS),
           AdtIs (fun (s : PS) (b : Nat) ↦ packs (psE s b)) psE ∧
            psOk s ∧
             ∀ (ao_1 : Option Addr) (cap_1 : Nat),
              true = true ∧
               br = br ∧
                ∃ (h : RPs = RPs),
                 AdtIs (fun (s : RPs) (b : Nat) ↦ packs (rpE s b)) rpE ∧
                  rpOk r ∧
                   ∀ (ao_2 : Option Addr) (cap_2 : Nat),
                    K (frmR [J0] (bodyOf Try.f3) 39)
                     (Sy.mk (SV.vec 0 ao (List.length bs) cap :: (SV.raw (u 1) :: (SV.raw (u 2) :: (SV.ptr 1 bt 0 :: (SV.ptr 2 br 0 :: (SV.int IntKind.i64 (↑i : Int) :: (SV.ptr 3 b6 0 :: (SV.int IntKind.i64 (dAdd s.5 x.2 x.4).2 :: (SV.int IntKind.i64 (dAdd r.7 x.2 x.4).2 :: (rawR u 9 (SV.ptr 1 bt 0 :: (SV.ptr 3 b6 1 :: (SV.int IntKind.i64 x.2 :: (SV.ptr 3 b6 3 :: (SV.str x.4 :: (SV.int IntKind.i64 (dAdd s.5 x.2 x.4).2 :: (SV.ptr 2 br 0 :: (SV.ptr 3 b6 1 :: (SV.int IntKind.i64 x.2 :: (SV.ptr 3 b6 3 :: (SV.str x.4 :: (SV.int IntKind.i64 (dAdd r.7 x.2 x.4).2 :: (rawR u 155 [] 53))))))))))))) 134))))))))))
                      [Ent.mk (Loc.sl ao cap) (SObj.roL 4 encStepP bs (StepP.mk (0 : Int) (0 : Int) (ByteArray.mk #[]) (ByteArray.mk #[]))),
                       pkA bt psE (PS.mk s.1 s.2 ao_1 cap_1 (dAdd s.5 x.2 x.4).1 s.6), pkA br rpE (RPs.mk r.aoL r.2 r.3 r.4 ao_2 cap_2 (dAdd r.7 x.2 x.4).1),
                       Ent.mk (Loc.blk b6) (SObj.cells [SV.int IntKind.i64 x.1, SV.int IntKind.i64 x.2, SV.str x.3, SV.str x.4] (32 : TypeId))])) ∧
      b6 = b6 ∧
       b6 = b6 ∧
        true = true ∧
         bt = bt ∧
          ∃ (h : PS = PS),
           AdtIs (fun (s : PS) (b : Nat) ↦ packs (psE s b)) psE ∧
            psOk s ∧
             ∀ (ao_1 : Option Addr) (cap_1 : Nat),
              true = true ∧
               br = br ∧
                ∃ (h : RPs = RPs),
                 AdtIs (fun (s : RPs) (b : Nat) ↦ packs (rpE s b)) rpE ∧
                  rpOk r ∧
                   ∀ (ao_2 : Option Addr) (cap_2 : Nat),
                    K (frmR [J0] (bodyOf Try.f3) 39)
                     (Sy.mk (SV.vec 0 ao (List.length bs) cap :: (SV.raw (u 1) :: (SV.raw (u 2) :: (SV.ptr 1 bt 0 :: (SV.ptr 2 br 0 :: (SV.int IntKind.i64 (↑i : Int) :: (SV.ptr 3 b6 0 :: (SV.int IntKind.i64 (dAdd s.5 x.2 x.4).2 :: (SV.int IntKind.i64 (dAdd r.7 x.2 x.4).2 :: (rawR u 9 (SV.ptr 1 bt 0 :: (SV.ptr 3 b6 1 :: (SV.int IntKind.i64 x.2 :: (SV.ptr 3 b6 3 :: (SV.str x.4 :: (SV.int IntKind.i64 (dAdd s.5 x.2 x.4).2 :: (SV.ptr 2 br 0 :: (SV.ptr 3 b6 1 :: (SV.int IntKind.i64 x.2 :: (SV.ptr 3 b6 3 :: (SV.str x.4 :: (SV.int IntKind.i64 (dAdd r.7 x.2 x.4).2 :: (rawR u 155 [] 53))))))))))))) 134))))))))))
                      [Ent.mk (Loc.sl ao cap) (SObj.roL 4 encStepP bs (StepP.mk (0 : Int) (0 : Int) (ByteArray.mk #[]) (ByteArray.mk #[]))),
                       pkA bt psE (PS.mk s.1 s.2 ao_1 cap_1 (dAdd s.5 x.2 x.4).1 s.6), pkA br rpE (RPs.mk r.aoL r.2 r.3 r.4 ao_2 cap_2 (dAdd r.7 x.2 x.4).1),
                       Ent.mk (Loc.blk b6) (SObj.cells [SV.int IntKind.i64 x.1, SV.int IntKind.i64 x.2, SV.str x.3, SV.str x.4] (32 : TypeId))])) ∧
  (b6 = b6 ∧
   (b6 = b6 ∧
    (b6 = b6 ∧
     (true = true ∧
      bt = bt ∧
       ∃ (h : PS = PS),
        AdtIs (fun (s : PS) (b : Nat) ↦ packs (psE s b)) psE ∧
         psOk s ∧
          ∀ (ao_1 : Option Addr) (cap_1 : Nat),
           b6 = b6 ∧
            true = true ∧
             br = br ∧
              ∃ (h : RPs = RPs),
               AdtIs (fun (s : RPs) (b : Nat) ↦ packs (rpE s b)) rpE ∧
                rpOk r ∧
                 ∀ (ao_2 : Option Addr) (cap_2 : Nat),
                  K (frmR [J0] (bodyOf Try.f3) 39)
                   (Sy.mk (SV.vec 0 ao (List.length bs) cap :: (SV.raw (u 1) :: (SV.raw (u 2) :: (SV.ptr 1 bt 0 :: (SV.ptr 2 br 0 :: (SV.int IntKind.i64 (↑i : Int) :: (SV.ptr 3 b6 0 :: (SV.int IntKind.i64 (dAdd s.5 x.2 x.4).2 :: (SV.int IntKind.i64 (dAdd r.7 x.2 x.4).2 :: (rawR u 9 (SV.ptr 1 bt 0 :: (SV.ptr 3 b6 1 :: (SV.int IntKind.i64 x.2 :: (SV.ptr 3 b6 3 :: (SV.str x.4 :: (SV.int IntKind.i64 (dAdd s.5 x.2 x.4).2 :: (SV.ptr 2 br 0 :: (SV.ptr 3 b6 1 :: (SV.int IntKind.i64 x.2 :: (SV.ptr 3 b6 3 :: (SV.str x.4 :: (SV.int IntKind.i64 (dAdd r.7 x.2 x.4).2 :: (rawR u 155 [] 53))))))))))))) 134))))))))))
                    [Ent.mk (Loc.sl ao cap) (SObj.roL 4 encStepP bs (StepP.mk (0 : Int) (0 : Int) (ByteArray.mk #[]) (ByteArray.mk #[]))),
                     pkA bt psE (PS.mk s.1 s.2 ao_1 cap_1 (dAdd s.5 x.2 x.4).1 s.6), pkA br rpE (RPs.mk r.aoL r.2 r.3 r.4 ao_2 cap_2 (dAdd r.7 x.2 x.4).1),
                     Ent.mk (Loc.blk b6) (SObj.cells [SV.int IntKind.i64 x.1, SV.int IntKind.i64 x.2, SV.str x.3, SV.str x.4] (32 : TypeId))])) ∧
      b6 = b6 ∧
       true = true ∧
        bt = bt ∧
         ∃ (h : PS = PS),
          AdtIs (fun (s : PS) (b : Nat) ↦ packs (psE s b)) psE ∧
           psOk s ∧
            ∀ (ao_1 : Option Addr) (cap_1 : Nat),
             true = true ∧
              br = br ∧
               ∃ (h : RPs = RPs),
                AdtIs (fun (s : RPs) (b : Nat) ↦ packs (rpE s b)) rpE ∧
                 rpOk r ∧
                  ∀ (ao_2 : Option Addr) (cap_2 : Nat),
                   K (frmR [J0] (bodyOf Try.f3) 39)
                    (Sy.mk (SV.vec 0 ao (List.length bs) cap :: (SV.raw (u 1) :: (SV.raw (u 2) :: (SV.ptr 1 bt 0 :: (SV.ptr 2 br 0 :: (SV.int IntKind.i64 (↑i : Int) :: (SV.ptr 3 b6 0 :: (SV.int IntKind.i64 (dAdd s.5 x.2 x.4).2 :: (SV.int IntKind.i64 (dAdd r.7 x.2 x.4).2 :: (rawR u 9 (SV.ptr 1 bt 0 :: (SV.ptr 3 b6 1 :: (SV.int IntKind.i64 x.2 :: (SV.ptr 3 b6 3 :: (SV.str x.4 :: (SV.int IntKind.i64 (dAdd s.5 x.2 x.4).2 :: (SV.ptr 2 br 0 :: (SV.ptr 3 b6 1 :: (SV.int IntKind.i64 x.2 :: (SV.ptr 3 b6 3 :: (SV.str x.4 :: (SV.int IntKind.i64 (dAdd r.7 x.2 x.4).2 :: (rawR u 155 [] 53))))))))))))) 134))))))))))
                     [Ent.mk (Loc.sl ao cap) (SObj.roL 4 encStepP bs (StepP.mk (0 : Int) (0 : Int) (ByteArray.mk #[]) (ByteArray.mk #[]))),
                      pkA bt psE (PS.mk s.1 s.2 ao_1 cap_1 (dAdd s.5 x.2 x.4).1 s.6), pkA br rpE (RPs.mk r.aoL r.2 r.3 r.4 ao_2 cap_2 (dAdd r.7 x.2 x.4).1),
                      Ent.mk (Loc.blk b6) (SObj.cells [SV.int IntKind.i64 x.1, SV.int IntKind.i64 x.2, SV.str x.3, SV.str x.4] (32 : TypeId))])) ∧
     b6 = b6 ∧
      b6 = b6 ∧
       true = true ∧
        bt = bt ∧
         ∃ (h : PS = PS),
          AdtIs (fun (s : PS) (b : Nat) ↦ packs (psE s b)) psE ∧
           psOk s ∧
            ∀ (ao_1 : Option Addr) (cap_1 : Nat),
             true = true ∧
              br = br ∧
               ∃ (h : RPs = RPs),
                AdtIs (fun (s : RPs) (b : Nat) ↦ packs (rpE s b)) rpE ∧
                 rpOk r ∧
                  ∀ (ao_2 : Option Addr) (cap_2 : Nat),
                   K (frmR [J0] (bodyOf Try.f3) 39)
                    (Sy.mk (SV.vec 0 ao (List.length bs) cap :: (SV.raw (u 1) :: (SV.raw (u 2) :: (SV.ptr 1 bt 0 :: (SV.ptr 2 br 0 :: (SV.int IntKind.i64 (↑i : Int) :: (SV.ptr 3 b6 0 :: (SV.int IntKind.i64 (dAdd s.5 x.2 x.4).2 :: (SV.int IntKind.i64 (dAdd r.7 x.2 x.4).2 :: (rawR u 9 (SV.ptr 1 bt 0 :: (SV.ptr 3 b6 1 :: (SV.int IntKind.i64 x.2 :: (SV.ptr 3 b6 3 :: (SV.str x.4 :: (SV.int IntKind.i64 (dAdd s.5 x.2 x.4).2 :: (SV.ptr 2 br 0 :: (SV.ptr 3 b6 1 :: (SV.int IntKind.i64 x.2 :: (SV.ptr 3 b6 3 :: (SV.str x.4 :: (SV.int IntKind.i64 (dAdd r.7 x.2 x.4).2 :: (rawR u 155 [] 53))))))))))))) 134))))))))))
                     [Ent.mk (Loc.sl ao cap) (SObj.roL 4 encStepP bs (StepP.mk (0 : Int) (0 : Int) (ByteArray.mk #[]) (ByteArray.mk #[]))),
                      pkA bt psE (PS.mk s.1 s.2 ao_1 cap_1 (dAdd s.5 x.2 x.4).1 s.6), pkA br rpE (RPs.mk r.aoL r.2 r.3 r.4 ao_2 cap_2 (dAdd r.7 x.2 x.4).1),
                      Ent.mk (Loc.blk b6) (SObj.cells [SV.int IntKind.i64 x.1, SV.int IntKind.i64 x.2, SV.str x.3, SV.str x.4] (32 : TypeId))])) ∧
    (b6 = b6 ∧
     (b6 = b6 ∧
      (true = true ∧
       bt = bt ∧
        ∃ (h : PS = PS),
         AdtIs (fun (s : PS) (b : Nat) ↦ packs (psE s b)) psE ∧
          psOk s ∧
           ∀ (ao_1 : Option Addr) (cap_1 : Nat),
            b6 = b6 ∧
             true = true ∧
              br = br ∧
               ∃ (h : RPs = RPs),
                AdtIs (fun (s : RPs) (b : Nat) ↦ packs (rpE s b)) rpE ∧
                 rpOk r ∧
                  ∀ (ao_2 : Option Addr) (cap_2 : Nat),
                   K (frmR [J0] (bodyOf Try.f3) 39)
                    (Sy.mk (SV.vec 0 ao (List.length bs) cap :: (SV.raw (u 1) :: (SV.raw (u 2) :: (SV.ptr 1 bt 0 :: (SV.ptr 2 br 0 :: (SV.int IntKind.i64 (↑i : Int) :: (SV.ptr 3 b6 0 :: (SV.int IntKind.i64 (dAdd s.5 x.2 x.4).2 :: (SV.int IntKind.i64 (dAdd r.7 x.2 x.4).2 :: (rawR u 9 (SV.ptr 1 bt 0 :: (SV.ptr 3 b6 1 :: (SV.int IntKind.i64 x.2 :: (SV.ptr 3 b6 3 :: (SV.str x.4 :: (SV.int IntKind.i64 (dAdd s.5 x.2 x.4).2 :: (SV.ptr 2 br 0 :: (SV.ptr 3 b6 1 :: (SV.int IntKind.i64 x.2 :: (SV.ptr 3 b6 3 :: (SV.str x.4 :: (SV.int IntKind.i64 (dAdd r.7 x.2 x.4).2 :: (rawR u 155 [] 53))))))))))))) 134))))))))))
                     [Ent.mk (Loc.sl ao cap) (SObj.roL 4 encStepP bs (StepP.mk (0 : Int) (0 : Int) (ByteArray.mk #[]) (ByteArray.mk #[]))),
                      pkA bt psE (PS.mk s.1 s.2 ao_1 cap_1 (dAdd s.5 x.2 x.4).1 s.6), pkA br rpE (RPs.mk r.aoL r.2 r.3 r.4 ao_2 cap_2 (dAdd r.7 x.2 x.4).1),
                      Ent.mk (Loc.blk b6) (SObj.cells [SV.int IntKind.i64 x.1, SV.int IntKind.i64 x.2, SV.str x.3, SV.str x.4] (32 : TypeId))])) ∧
       b6 = b6 ∧
        true = true ∧
         bt = bt ∧
          ∃ (h : PS = PS),
           AdtIs (fun (s : PS) (b : Nat) ↦ packs (psE s b)) psE ∧
            psOk s ∧
             ∀ (ao_1 : Option Addr) (cap_1 : Nat),
              true = true ∧
               br = br ∧
                ∃ (h : RPs = RPs),
                 AdtIs (fun (s : RPs) (b : Nat) ↦ packs (rpE s b)) rpE ∧
                  rpOk r ∧
                   ∀ (ao_2 : Option Addr) (cap_2 : Nat),
                    K (frmR [J0] (bodyOf Try.f3) 39)
                     (Sy.mk (SV.vec 0 ao (List.length bs) cap :: (SV.raw (u 1) :: (SV.raw (u 2) :: (SV.ptr 1 bt 0 :: (SV.ptr 2 br 0 :: (SV.int IntKind.i64 (↑i : Int) :: (SV.ptr 3 b6 0 :: (SV.int IntKind.i64 (dAdd s.5 x.2 x.4).2 :: (SV.int IntKind.i64 (dAdd r.7 x.2 x.4).2 :: (rawR u 9 (SV.ptr 1 bt 0 :: (SV.ptr 3 b6 1 :: (SV.int IntKind.i64 x.2 :: (SV.ptr 3 b6 3 :: (SV.str x.4 :: (SV.int IntKind.i64 (dAdd s.5 x.2 x.4).2 :: (SV.ptr 2 br 0 :: (SV.ptr 3 b6 1 :: (SV.int IntKind.i64 x.2 :: (SV.ptr 3 b6 3 :: (SV.str x.4 :: (SV.int IntKind.i64 (dAdd r.7 x.2 x.4).2 :: (rawR u 155 [] 53))))))))))))) 134))))))))))
                      [Ent.mk (Loc.sl ao cap) (SObj.roL 4 encStepP bs (StepP.mk (0 : Int) (0 : Int) (ByteArray.mk #[]) (ByteArray.mk #[]))),
                       pkA bt psE (PS.mk s.1 s.2 ao_1 cap_1 (dAdd s.5 x.2 x.4).1 s.6), pkA br rpE (RPs.mk r.aoL r.2 r.3 r.4 ao_2 cap_2 (dAdd r.7 x.2 x.4).1),
                       Ent.mk (Loc.blk b6) (SObj.cells [SV.int IntKind.i64 x.1, SV.int IntKind.i64 x.2, SV.str x.3, SV.str x.4] (32 : TypeId))])) ∧
      b6 = b6 ∧
       b6 = b6 ∧
        true = true ∧
         bt = bt ∧
          ∃ (h : PS = PS),
           AdtIs (fun (s : PS) (b : Nat) ↦ packs (psE s b)) psE ∧
            psOk s ∧
             ∀ (ao_1 : Option Addr) (cap_1 : Nat),
              true = true ∧
               br = br ∧
                ∃ (h : RPs = RPs),
                 AdtIs (fun (s : RPs) (b : Nat) ↦ packs (rpE s b)) rpE ∧
                  rpOk r ∧
                   ∀ (ao_2 : Option Addr) (cap_2 : Nat),
                    K (frmR [J0] (bodyOf Try.f3) 39)
                     (Sy.mk (SV.vec 0 ao (List.length bs) cap :: (SV.raw (u 1) :: (SV.raw (u 2) :: (SV.ptr 1 bt 0 :: (SV.ptr 2 br 0 :: (SV.int IntKind.i64 (↑i : Int) :: (SV.ptr 3 b6 0 :: (SV.int IntKind.i64 (dAdd s.5 x.2 x.4).2 :: (SV.int IntKind.i64 (dAdd r.7 x.2 x.4).2 :: (rawR u 9 (SV.ptr 1 bt 0 :: (SV.ptr 3 b6 1 :: (SV.int IntKind.i64 x.2 :: (SV.ptr 3 b6 3 :: (SV.str x.4 :: (SV.int IntKind.i64 (dAdd s.5 x.2 x.4).2 :: (SV.ptr 2 br 0 :: (SV.ptr 3 b6 1 :: (SV.int IntKind.i64 x.2 :: (SV.ptr 3 b6 3 :: (SV.str x.4 :: (SV.int IntKind.i64 (dAdd r.7 x.2 x.4).2 :: (rawR u 155 [] 53))))))))))))) 134))))))))))
                      [Ent.mk (Loc.sl ao cap) (SObj.roL 4 encStepP bs (StepP.mk (0 : Int) (0 : Int) (ByteArray.mk #[]) (ByteArray.mk #[]))),
                       pkA bt psE (PS.mk s.1 s.2 ao_1 cap_1 (dAdd s.5 x.2 x.4).1 s.6), pkA br rpE (RPs.mk r.aoL r.2 r.3 r.4 ao_2 cap_2 (dAdd r.7 x.2 x.4).1),
                       Ent.mk (Loc.blk b6) (SObj.cells [SV.int IntKind.i64 x.1, SV.int IntKind.i64 x.2, SV.str x.3, SV.str x.4] (32 : TypeId))])) ∧
     b6 = b6 ∧
      (b6 = b6 ∧
       b6 = b6 ∧
        true = true ∧
         bt = bt ∧
          ∃ (h : PS = PS),
           AdtIs (fun (s : PS) (b : Nat) ↦ packs (psE s b)) psE ∧
            psOk s ∧
             ∀ (ao_1 : Option Addr) (cap_1 : Nat),
              true = true ∧
               br = br ∧
                ∃ (h : RPs = RPs),
                 AdtIs (fun (s : RPs) (b : Nat) ↦ packs (rpE s b)) rpE ∧
                  rpOk r ∧
                   ∀ (ao_2 : Option Addr) (cap_2 : Nat),
                    K (frmR [J0] (bodyOf Try.f3) 39)
                     (Sy.mk (SV.vec 0 ao (List.length bs) cap :: (SV.raw (u 1) :: (SV.raw (u 2) :: (SV.ptr 1 bt 0 :: (SV.ptr 2 br 0 :: (SV.int IntKind.i64 (↑i : Int) :: (SV.ptr 3 b6 0 :: (SV.int IntKind.i64 (dAdd s.5 x.2 x.4).2 :: (SV.int IntKind.i64 (dAdd r.7 x.2 x.4).2 :: (rawR u 9 (SV.ptr 1 bt 0 :: (SV.ptr 3 b6 1 :: (SV.int IntKind.i64 x.2 :: (SV.ptr 3 b6 3 :: (SV.str x.4 :: (SV.int IntKind.i64 (dAdd s.5 x.2 x.4).2 :: (SV.ptr 2 br 0 :: (SV.ptr 3 b6 1 :: (SV.int IntKind.i64 x.2 :: (SV.ptr 3 b6 3 :: (SV.str x.4 :: (SV.int IntKind.i64 (dAdd r.7 x.2 x.4).2 :: (rawR u 155 [] 53))))))))))))) 134))))))))))
                      [Ent.mk (Loc.sl ao cap) (SObj.roL 4 encStepP bs (StepP.mk (0 : Int) (0 : Int) (ByteArray.mk #[]) (ByteArray.mk #[]))),
                       pkA bt psE (PS.mk s.1 s.2 ao_1 cap_1 (dAdd s.5 x.2 x.4).1 s.6), pkA br rpE (RPs.mk r.aoL r.2 r.3 r.4 ao_2 cap_2 (dAdd r.7 x.2 x.4).1),
                       Ent.mk (Loc.blk b6) (SObj.cells [SV.int IntKind.i64 x.1, SV.int IntKind.i64 x.2, SV.str x.3, SV.str x.4] (32 : TypeId))])) ∧
       b6 = b6 ∧
        b6 = b6 ∧
         true = true ∧
          bt = bt ∧
           ∃ (h : PS = PS),
            AdtIs (fun (s : PS) (b : Nat) ↦ packs (psE s b)) psE ∧
             psOk s ∧
              ∀ (ao_1 : Option Addr) (cap_1 : Nat),
               true = true ∧
                br = br ∧
                 ∃ (h : RPs = RPs),
                  AdtIs (fun (s : RPs) (b : Nat) ↦ packs (rpE s b)) rpE ∧
                   rpOk r ∧
                    ∀ (ao_2 : Option Addr) (cap_2 : Nat),
                     K (frmR [J0] (bodyOf Try.f3) 39)
                      (Sy.mk (SV.vec 0 ao (List.length bs) cap :: (SV.raw (u 1) :: (SV.raw (u 2) :: (SV.ptr 1 bt 0 :: (SV.ptr 2 br 0 :: (SV.int IntKind.i64 (↑i : Int) :: (SV.ptr 3 b6 0 :: (SV.int IntKind.i64 (dAdd s.5 x.2 x.4).2 :: (SV.int IntKind.i64 (dAdd r.7 x.2 x.4).2 :: (rawR u 9 (SV.ptr 1 bt 0 :: (SV.ptr 3 b6 1 :: (SV.int IntKind.i64 x.2 :: (SV.ptr 3 b6 3 :: (SV.str x.4 :: (SV.int IntKind.i64 (dAdd s.5 x.2 x.4).2 :: (SV.ptr 2 br 0 :: (SV.ptr 3 b6 1 :: (SV.int IntKind.i64 x.2 :: (SV.ptr 3 b6 3 :: (SV.str x.4 :: (SV.int IntKind.i64 (dAdd r.7 x.2 x.4).2 :: (rawR u 155 [] 53))))))))))))) 134))))))))))
                       [Ent.mk (Loc.sl ao cap) (SObj.roL 4 encStepP bs (StepP.mk (0 : Int) (0 : Int) (ByteArray.mk #[]) (ByteArray.mk #[]))),
                        pkA bt psE (PS.mk s.1 s.2 ao_1 cap_1 (dAdd s.5 x.2 x.4).1 s.6), pkA br rpE (RPs.mk r.aoL r.2 r.3 r.4 ao_2 cap_2 (dAdd r.7 x.2 x.4).1),
                        Ent.mk (Loc.blk b6) (SObj.cells [SV.int IntKind.i64 x.1, SV.int IntKind.i64 x.2, SV.str x.3, SV.str x.4] (32 : TypeId))])) ∧
   b6 = b6 ∧
    (b6 = b6 ∧
     (b6 = b6 ∧
      (true = true ∧
       bt = bt ∧
        ∃ (h : PS = PS),
         AdtIs (fun (s : PS) (b : Nat) ↦ packs (psE s b)) psE ∧
          psOk s ∧
           ∀ (ao_1 : Option Addr) (cap_1 : Nat),
            b6 = b6 ∧
             true = true ∧
              br = br ∧
               ∃ (h : RPs = RPs),
                AdtIs (fun (s : RPs) (b : Nat) ↦ packs (rpE s b)) rpE ∧
                 rpOk r ∧
                  ∀ (ao_2 : Option Addr) (cap_2 : Nat),
                   K (frmR [J0] (bodyOf Try.f3) 39)
                    (Sy.mk (SV.vec 0 ao (List.length bs) cap :: (SV.raw (u 1) :: (SV.raw (u 2) :: (SV.ptr 1 bt 0 :: (SV.ptr 2 br 0 :: (SV.int IntKind.i64 (↑i : Int) :: (SV.ptr 3 b6 0 :: (SV.int IntKind.i64 (dAdd s.5 x.2 x.4).2 :: (SV.int IntKind.i64 (dAdd r.7 x.2 x.4).2 :: (rawR u 9 (SV.ptr 1 bt 0 :: (SV.ptr 3 b6 1 :: (SV.int IntKind.i64 x.2 :: (SV.ptr 3 b6 3 :: (SV.str x.4 :: (SV.int IntKind.i64 (dAdd s.5 x.2 x.4).2 :: (SV.ptr 2 br 0 :: (SV.ptr 3 b6 1 :: (SV.int IntKind.i64 x.2 :: (SV.ptr 3 b6 3 :: (SV.str x.4 :: (SV.int IntKind.i64 (dAdd r.7 x.2 x.4).2 :: (rawR u 155 [] 53))))))))))))) 134))))))))))
                     [Ent.mk (Loc.sl ao cap) (SObj.roL 4 encStepP bs (StepP.mk (0 : Int) (0 : Int) (ByteArray.mk #[]) (ByteArray.mk #[]))),
                      pkA bt psE (PS.mk s.1 s.2 ao_1 cap_1 (dAdd s.5 x.2 x.4).1 s.6), pkA br rpE (RPs.mk r.aoL r.2 r.3 r.4 ao_2 cap_2 (dAdd r.7 x.2 x.4).1),
                      Ent.mk (Loc.blk b6) (SObj.cells [SV.int IntKind.i64 x.1, SV.int IntKind.i64 x.2, SV.str x.3, SV.str x.4] (32 : TypeId))])) ∧
       b6 = b6 ∧
        true = true ∧
         bt = bt ∧
          ∃ (h : PS = PS),
           AdtIs (fun (s : PS) (b : Nat) ↦ packs (psE s b)) psE ∧
            psOk s ∧
             ∀ (ao_1 : Option Addr) (cap_1 : Nat),
              true = true ∧
               br = br ∧
                ∃ (h : RPs = RPs),
                 AdtIs (fun (s : RPs) (b : Nat) ↦ packs (rpE s b)) rpE ∧
                  rpOk r ∧
                   ∀ (ao_2 : Option Addr) (cap_2 : Nat),
                    K (frmR [J0] (bodyOf Try.f3) 39)
                     (Sy.mk (SV.vec 0 ao (List.length bs) cap :: (SV.raw (u 1) :: (SV.raw (u 2) :: (SV.ptr 1 bt 0 :: (SV.ptr 2 br 0 :: (SV.int IntKind.i64 (↑i : Int) :: (SV.ptr 3 b6 0 :: (SV.int IntKind.i64 (dAdd s.5 x.2 x.4).2 :: (SV.int IntKind.i64 (dAdd r.7 x.2 x.4).2 :: (rawR u 9 (SV.ptr 1 bt 0 :: (SV.ptr 3 b6 1 :: (SV.int IntKind.i64 x.2 :: (SV.ptr 3 b6 3 :: (SV.str x.4 :: (SV.int IntKind.i64 (dAdd s.5 x.2 x.4).2 :: (SV.ptr 2 br 0 :: (SV.ptr 3 b6 1 :: (SV.int IntKind.i64 x.2 :: (SV.ptr 3 b6 3 :: (SV.str x.4 :: (SV.int IntKind.i64 (dAdd r.7 x.2 x.4).2 :: (rawR u 155 [] 53))))))))))))) 134))))))))))
                      [Ent.mk (Loc.sl ao cap) (SObj.roL 4 encStepP bs (StepP.mk (0 : Int) (0 : Int) (ByteArray.mk #[]) (ByteArray.mk #[]))),
                       pkA bt psE (PS.mk s.1 s.2 ao_1 cap_1 (dAdd s.5 x.2 x.4).1 s.6), pkA br rpE (RPs.mk r.aoL r.2 r.3 r.4 ao_2 cap_2 (dAdd r.7 x.2 x.4).1),
                       Ent.mk (Loc.blk b6) (SObj.cells [SV.int IntKind.i64 x.1, SV.int IntKind.i64 x.2, SV.str x.3, SV.str x.4] (32 : TypeId))])) ∧
      b6 = b6 ∧
       b6 = b6 ∧
        true = true ∧
         bt = bt ∧
          ∃ (h : PS = PS),
           AdtIs (fun (s : PS) (b : Nat) ↦ packs (psE s b)) psE ∧
            psOk s ∧
             ∀ (ao_1 : Option Addr) (cap_1 : Nat),
              true = true ∧
               br = br ∧
                ∃ (h : RPs = RPs),
                 AdtIs (fun (s : RPs) (b : Nat) ↦ packs (rpE s b)) rpE ∧
                  rpOk r ∧
                   ∀ (ao_2 : Option Addr) (cap_2 : Nat),
                    K (frmR [J0] (bodyOf Try.f3) 39)
                     (Sy.mk (SV.vec 0 ao (List.length bs) cap :: (SV.raw (u 1) :: (SV.raw (u 2) :: (SV.ptr 1 bt 0 :: (SV.ptr 2 br 0 :: (SV.int IntKind.i64 (↑i : Int) :: (SV.ptr 3 b6 0 :: (SV.int IntKind.i64 (dAdd s.5 x.2 x.4).2 :: (SV.int IntKind.i64 (dAdd r.7 x.2 x.4).2 :: (rawR u 9 (SV.ptr 1 bt 0 :: (SV.ptr 3 b6 1 :: (SV.int IntKind.i64 x.2 :: (SV.ptr 3 b6 3 :: (SV.str x.4 :: (SV.int IntKind.i64 (dAdd s.5 x.2 x.4).2 :: (SV.ptr 2 br 0 :: (SV.ptr 3 b6 1 :: (SV.int IntKind.i64 x.2 :: (SV.ptr 3 b6 3 :: (SV.str x.4 :: (SV.int IntKind.i64 (dAdd r.7 x.2 x.4).2 :: (rawR u 155 [] 53))))))))))))) 134))))))))))
                      [Ent.mk (Loc.sl ao cap) (SObj.roL 4 encStepP bs (StepP.mk (0 : Int) (0 : Int) (ByteArray.mk #[]) (ByteArray.mk #[]))),
                       pkA bt psE (PS.mk s.1 s.2 ao_1 cap_1 (dAdd s.5 x.2 x.4).1 s.6), pkA br rpE (RPs.mk r.aoL r.2 r.3 r.4 ao_2 cap_2 (dAdd r.7 x.2 x.4).1),
                       Ent.mk (Loc.blk b6) (SObj.cells [SV.int IntKind.i64 x.1, SV.int IntKind.i64 x.2, SV.str x.3, SV.str x.4] (32 : TypeId))])) ∧
     (b6 = b6 ∧
      (b6 = b6 ∧
       (true = true ∧
        bt = bt ∧
         ∃ (h : PS = PS),
          AdtIs (fun (s : PS) (b : Nat) ↦ packs (psE s b)) psE ∧
           psOk s ∧
            ∀ (ao_1 : Option Addr) (cap_1 : Nat),
             b6 = b6 ∧
              true = true ∧
               br = br ∧
                ∃ (h : RPs = RPs),
                 AdtIs (fun (s : RPs) (b : Nat) ↦ packs (rpE s b)) rpE ∧
                  rpOk r ∧
                   ∀ (ao_2 : Option Addr) (cap_2 : Nat),
                    K (frmR [J0] (bodyOf Try.f3) 39)
                     (Sy.mk (SV.vec 0 ao (List.length bs) cap :: (SV.raw (u 1) :: (SV.raw (u 2) :: (SV.ptr 1 bt 0 :: (SV.ptr 2 br 0 :: (SV.int IntKind.i64 (↑i : Int) :: (SV.ptr 3 b6 0 :: (SV.int IntKind.i64 (dAdd s.5 x.2 x.4).2 :: (SV.int IntKind.i64 (dAdd r.7 x.2 x.4).2 :: (rawR u 9 (SV.ptr 1 bt 0 :: (SV.ptr 3 b6 1 :: (SV.int IntKind.i64 x.2 :: (SV.ptr 3 b6 3 :: (SV.str x.4 :: (SV.int IntKind.i64 (dAdd s.5 x.2 x.4).2 :: (SV.ptr 2 br 0 :: (SV.ptr 3 b6 1 :: (SV.int IntKind.i64 x.2 :: (SV.ptr 3 b6 3 :: (SV.str x.4 :: (SV.int IntKind.i64 (dAdd r.7 x.2 x.4).2 :: (rawR u 155 [] 53))))))))))))) 134))))))))))
                      [Ent.mk (Loc.sl ao cap) (SObj.roL 4 encStepP bs (StepP.mk (0 : Int) (0 : Int) (ByteArray.mk #[]) (ByteArray.mk #[]))),
                       pkA bt psE (PS.mk s.1 s.2 ao_1 cap_1 (dAdd s.5 x.2 x.4).1 s.6), pkA br rpE (RPs.mk r.aoL r.2 r.3 r.4 ao_2 cap_2 (dAdd r.7 x.2 x.4).1),
                       Ent.mk (Loc.blk b6) (SObj.cells [SV.int IntKind.i64 x.1, SV.int IntKind.i64 x.2, SV.str x.3, SV.str x.4] (32 : TypeId))])) ∧
        b6 = b6 ∧
         true = true ∧
          bt = bt ∧
           ∃ (h : PS = PS),
            AdtIs (fun (s : PS) (b : Nat) ↦ packs (psE s b)) psE ∧
             psOk s ∧
              ∀ (ao_1 : Option Addr) (cap_1 : Nat),
               true = true ∧
                br = br ∧
                 ∃ (h : RPs = RPs),
                  AdtIs (fun (s : RPs) (b : Nat) ↦ packs (rpE s b)) rpE ∧
                   rpOk r ∧
                    ∀ (ao_2 : Option Addr) (cap_2 : Nat),
                     K (frmR [J0] (bodyOf Try.f3) 39)
                      (Sy.mk (SV.vec 0 ao (List.length bs) cap :: (SV.raw (u 1) :: (SV.raw (u 2) :: (SV.ptr 1 bt 0 :: (SV.ptr 2 br 0 :: (SV.int IntKind.i64 (↑i : Int) :: (SV.ptr 3 b6 0 :: (SV.int IntKind.i64 (dAdd s.5 x.2 x.4).2 :: (SV.int IntKind.i64 (dAdd r.7 x.2 x.4).2 :: (rawR u 9 (SV.ptr 1 bt 0 :: (SV.ptr 3 b6 1 :: (SV.int IntKind.i64 x.2 :: (SV.ptr 3 b6 3 :: (SV.str x.4 :: (SV.int IntKind.i64 (dAdd s.5 x.2 x.4).2 :: (SV.ptr 2 br 0 :: (SV.ptr 3 b6 1 :: (SV.int IntKind.i64 x.2 :: (SV.ptr 3 b6 3 :: (SV.str x.4 :: (SV.int IntKind.i64 (dAdd r.7 x.2 x.4).2 :: (rawR u 155 [] 53))))))))))))) 134))))))))))
                       [Ent.mk (Loc.sl ao cap) (SObj.roL 4 encStepP bs (StepP.mk (0 : Int) (0 : Int) (ByteArray.mk #[]) (ByteArray.mk #[]))),
                        pkA bt psE (PS.mk s.1 s.2 ao_1 cap_1 (dAdd s.5 x.2 x.4).1 s.6), pkA br rpE (RPs.mk r.aoL r.2 r.3 r.4 ao_2 cap_2 (dAdd r.7 x.2 x.4).1),
                        Ent.mk (Loc.blk b6) (SObj.cells [SV.int IntKind.i64 x.1, SV.int IntKind.i64 x.2, SV.str x.3, SV.str x.4] (32 : TypeId))])) ∧
       b6 = b6 ∧
        b6 = b6 ∧
         true = true ∧
          bt = bt ∧
           ∃ (h : PS = PS),
            AdtIs (fun (s : PS) (b : Nat) ↦ packs (psE s b)) psE ∧
             psOk s ∧
              ∀ (ao_1 : Option Addr) (cap_1 : Nat),
               true = true ∧
                br = br ∧
                 ∃ (h : RPs = RPs),
                  AdtIs (fun (s : RPs) (b : Nat) ↦ packs (rpE s b)) rpE ∧
                   rpOk r ∧
                    ∀ (ao_2 : Option Addr) (cap_2 : Nat),
                     K (frmR [J0] (bodyOf Try.f3) 39)
                      (Sy.mk (SV.vec 0 ao (List.length bs) cap :: (SV.raw (u 1) :: (SV.raw (u 2) :: (SV.ptr 1 bt 0 :: (SV.ptr 2 br 0 :: (SV.int IntKind.i64 (↑i : Int) :: (SV.ptr 3 b6 0 :: (SV.int IntKind.i64 (dAdd s.5 x.2 x.4).2 :: (SV.int IntKind.i64 (dAdd r.7 x.2 x.4).2 :: (rawR u 9 (SV.ptr 1 bt 0 :: (SV.ptr 3 b6 1 :: (SV.int IntKind.i64 x.2 :: (SV.ptr 3 b6 3 :: (SV.str x.4 :: (SV.int IntKind.i64 (dAdd s.5 x.2 x.4).2 :: (SV.ptr 2 br 0 :: (SV.ptr 3 b6 1 :: (SV.int IntKind.i64 x.2 :: (SV.ptr 3 b6 3 :: (SV.str x.4 :: (SV.int IntKind.i64 (dAdd r.7 x.2 x.4).2 :: (rawR u 155 [] 53))))))))))))) 134))))))))))
                       [Ent.mk (Loc.sl ao cap) (SObj.roL 4 encStepP bs (StepP.mk (0 : Int) (0 : Int) (ByteArray.mk #[]) (ByteArray.mk #[]))),
                        pkA bt psE (PS.mk s.1 s.2 ao_1 cap_1 (dAdd s.5 x.2 x.4).1 s.6), pkA br rpE (RPs.mk r.aoL r.2 r.3 r.4 ao_2 cap_2 (dAdd r.7 x.2 x.4).1),
                        Ent.mk (Loc.blk b6) (SObj.cells [SV.int IntKind.i64 x.1, SV.int IntKind.i64 x.2, SV.str x.3, SV.str x.4] (32 : TypeId))])) ∧
      b6 = b6 ∧
       (b6 = b6 ∧
        b6 = b6 ∧
         true = true ∧
          bt = bt ∧
           ∃ (h : PS = PS),
            AdtIs (fun (s : PS) (b : Nat) ↦ packs (psE s b)) psE ∧
             psOk s ∧
              ∀ (ao_1 : Option Addr) (cap_1 : Nat),
               true = true ∧
                br = br ∧
                 ∃ (h : RPs = RPs),
                  AdtIs (fun (s : RPs) (b : Nat) ↦ packs (rpE s b)) rpE ∧
                   rpOk r ∧
                    ∀ (ao_2 : Option Addr) (cap_2 : Nat),
                     K (frmR [J0] (bodyOf Try.f3) 39)
                      (Sy.mk (SV.vec 0 ao (List.length bs) cap :: (SV.raw (u 1) :: (SV.raw (u 2) :: (SV.ptr 1 bt 0 :: (SV.ptr 2 br 0 :: (SV.int IntKind.i64 (↑i : Int) :: (SV.ptr 3 b6 0 :: (SV.int IntKind.i64 (dAdd s.5 x.2 x.4).2 :: (SV.int IntKind.i64 (dAdd r.7 x.2 x.4).2 :: (rawR u 9 (SV.ptr 1 bt 0 :: (SV.ptr 3 b6 1 :: (SV.int IntKind.i64 x.2 :: (SV.ptr 3 b6 3 :: (SV.str x.4 :: (SV.int IntKind.i64 (dAdd s.5 x.2 x.4).2 :: (SV.ptr 2 br 0 :: (SV.ptr 3 b6 1 :: (SV.int IntKind.i64 x.2 :: (SV.ptr 3 b6 3 :: (SV.str x.4 :: (SV.int IntKind.i64 (dAdd r.7 x.2 x.4).2 :: (rawR u 155 [] 53))))))))))))) 134))))))))))
                       [Ent.mk (Loc.sl ao cap) (SObj.roL 4 encStepP bs (StepP.mk (0 : Int) (0 : Int) (ByteArray.mk #[]) (ByteArray.mk #[]))),
                        pkA bt psE (PS.mk s.1 s.2 ao_1 cap_1 (dAdd s.5 x.2 x.4).1 s.6), pkA br rpE (RPs.mk r.aoL r.2 r.3 r.4 ao_2 cap_2 (dAdd r.7 x.2 x.4).1),
                        Ent.mk (Loc.blk b6) (SObj.cells [SV.int IntKind.i64 x.1, SV.int IntKind.i64 x.2, SV.str x.3, SV.str x.4] (32 : TypeId))])) ∧
        b6 = b6 ∧
         b6 = b6 ∧
          true = true ∧
           bt = bt ∧
            ∃ (h : PS = PS),
             AdtIs (fun (s : PS) (b : Nat) ↦ packs (psE s b)) psE ∧
              psOk s ∧
               ∀ (ao_1 : Option Addr) (cap_1 : Nat),
                true = true ∧
                 br = br ∧
                  ∃ (h : RPs = RPs),
                   AdtIs (fun (s : RPs) (b : Nat) ↦ packs (rpE s b)) rpE ∧
                    rpOk r ∧
                     ∀ (ao_2 : Option Addr) (cap_2 : Nat),
                      K (frmR [J0] (bodyOf Try.f3) 39)
                       (Sy.mk (SV.vec 0 ao (List.length bs) cap :: (SV.raw (u 1) :: (SV.raw (u 2) :: (SV.ptr 1 bt 0 :: (SV.ptr 2 br 0 :: (SV.int IntKind.i64 (↑i : Int) :: (SV.ptr 3 b6 0 :: (SV.int IntKind.i64 (dAdd s.5 x.2 x.4).2 :: (SV.int IntKind.i64 (dAdd r.7 x.2 x.4).2 :: (rawR u 9 (SV.ptr 1 bt 0 :: (SV.ptr 3 b6 1 :: (SV.int IntKind.i64 x.2 :: (SV.ptr 3 b6 3 :: (SV.str x.4 :: (SV.int IntKind.i64 (dAdd s.5 x.2 x.4).2 :: (SV.ptr 2 br 0 :: (SV.ptr 3 b6 1 :: (SV.int IntKind.i64 x.2 :: (SV.ptr 3 b6 3 :: (SV.str x.4 :: (SV.int IntKind.i64 (dAdd r.7 x.2 x.4).2 :: (rawR u 155 [] 53))))))))))))) 134))))))))))
                        [Ent.mk (Loc.sl ao cap) (SObj.roL 4 encStepP bs (StepP.mk (0 : Int) (0 : Int) (ByteArray.mk #[]) (ByteArray.mk #[]))),
                         pkA bt psE (PS.mk s.1 s.2 ao_1 cap_1 (dAdd s.5 x.2 x.4).1 s.6), pkA br rpE (RPs.mk r.aoL r.2 r.3 r.4 ao_2 cap_2 (dAdd r.7 x.2 x.4).1),
                         Ent.mk (Loc.blk b6) (SObj.cells [SV.int IntKind.i64 x.1, SV.int IntKind.i64 x.2, SV.str x.3, SV.str x.4] (32 : TypeId))])) := by kernel_rfl


theorem pt_14 (K : List Frm → Sy → Prop) (N : List Ent → SV → Prop) (J0 : Act → World → Prop) (ao : Option Addr) (cap : Nat) (bs : List StepP) (bt br : Nat) (s : PS) (r : RPs) (i : Nat) (x : StepP) (b6 : Nat) (u : Nat → Value) : (run Try.prog plT false [39] K (retP Try.prog Try.f3.results.toList N) 900 (frmR [J0] (bodyOf Try.f3) 14) ⟨mkT u 208 0 [(0, .vec 0 ao bs.length cap), (3, .ptr 1 bt 0), (4, .ptr 2 br 0), (5, .int .i64 (i : Int)), (6, .ptr 3 b6 0), (7, .int .i64 0), (8, .int .i64 0)], [⟨.sl ao cap, .roL 4 encStepP bs StepP.zero⟩, pkA bt psE (s), pkA br rpE (r), ⟨.blk b6, .cells (encStepP x) 32⟩]⟩) = (
true = true ∧
 bt = bt ∧
  ∃ (h : PS = PS),
   AdtIs (fun (s : PS) (b : Nat) ↦ packs (psE s b)) psE ∧
    psOk s ∧
     ∀ (ao_1 : Option Addr) (cap_1 b : Nat),
      (b = b ∧ true = true ∧ 2 = 2 ∧ 2 ≤ 2) ∧
       true = true ∧
        br = br ∧
         ∃ (h : RPs = RPs),
          AdtIs (fun (s : RPs) (b : Nat) ↦ packs (rpE s b)) rpE ∧
           rpOk r ∧
            ∀ (ao_2 : Option Addr) (cap_2 b_1 : Nat),
             (b_1 = b_1 ∧ true = true ∧ 2 = 2 ∧ 2 ≤ 2) ∧
              (b = b ∧ 2 = 2) ∧
               (b_1 = b_1 ∧ 2 = 2) ∧
                match !((dTake s.5).2.1.1 == (dTake r.7).2.1.1 && (sEq (dTake s.5).2.1.2 (dTake r.7).2.1.2 && true)) with
                | true =>
                 N
                  [Ent.mk (Loc.sl ao cap) (SObj.roL 4 encStepP bs (StepP.mk (0 : Int) (0 : Int) (ByteArray.mk #[]) (ByteArray.mk #[]))),
                   pkA bt psE (PS.mk s.1 s.2 ao_1 cap_1 (dTake s.5).1 s.6), pkA br rpE (RPs.mk r.aoL r.2 r.3 r.4 ao_2 cap_2 (dTake r.7).1),
                   Ent.mk (Loc.blk b6) (SObj.cells [SV.int IntKind.i64 x.1, SV.int IntKind.i64 x.2, SV.str x.3, SV.str x.4] (32 : TypeId)),
                   Ent.mk (Loc.blk b) (SObj.cells [SV.int IntKind.i64 (dTake s.5).2.1.1, SV.str (dTake s.5).2.1.2] 49),
                   Ent.mk (Loc.blk b_1) (SObj.cells [SV.int IntKind.i64 (dTake r.7).2.1.1, SV.str (dTake r.7).2.1.2] 49)]
                  (SV.bool false)
                | false =>
                 match !(dTake s.5).2.2 == (dTake r.7).2.2 with
                 | true =>
                  N
                   [Ent.mk (Loc.sl ao cap) (SObj.roL 4 encStepP bs (StepP.mk (0 : Int) (0 : Int) (ByteArray.mk #[]) (ByteArray.mk #[]))),
                    pkA bt psE (PS.mk s.1 s.2 ao_1 cap_1 (dTake s.5).1 s.6), pkA br rpE (RPs.mk r.aoL r.2 r.3 r.4 ao_2 cap_2 (dTake r.7).1),
                    Ent.mk (Loc.blk b6) (SObj.cells [SV.int IntKind.i64 x.1, SV.int IntKind.i64 x.2, SV.str x.3, SV.str x.4] (32 : TypeId)),
                    Ent.mk (Loc.blk b) (SObj.cells [SV.int IntKind.i64 (dTake s.5).2.1.1, SV.str (dTake s.5).2.1.2] 49),
                    Ent.mk (Loc.blk b_1) (SObj.cells [SV.int IntKind.i64 (dTake r.7).2.1.1, SV.str (dTake r.7).2.1.2] 49)]
                   (SV.bool false)
                 | false =>
                  K (frmR [J0] (bodyOf Try.f3) 39)
                   (Sy.mk (SV.vec 0 ao (List.length bs) cap :: (SV.raw (u 1) :: (SV.raw (u 2) :: (SV.ptr 1 bt 0 :: (SV.ptr 2 br 0 :: (SV.int IntKind.i64 (↑i : Int) :: (SV.ptr 3 b6 0 :: (SV.int IntKind.i64 (0 : Int) :: (SV.int IntKind.i64 (0 : Int) :: (rawR u 9 (SV.ptr 4 b 0 :: (SV.bool (dTake s.5).2.2 :: (SV.ptr 5 b_1 0 :: (SV.bool (dTake r.7).2.2 :: (rawR u 21 (SV.tuple [SV.agg [SV.int IntKind.i64 (dTake s.5).2.1.1, SV.str (dTake s.5).2.1.2], SV.bool (dTake s.5).2.2] :: (SV.ptr 1 bt 0 :: (SV.tuple [SV.agg [SV.int IntKind.i64 (dTake s.5).2.1.1, SV.str (dTake s.5).2.1.2], SV.bool (dTake s.5).2.2] :: (SV.agg [SV.int IntKind.i64 (dTake s.5).2.1.1, SV.str (dTake s.5).2.1.2] :: (SV.bool (dTake s.5).2.2 :: (SV.tuple [SV.agg [SV.int IntKind.i64 (dTake r.7).2.1.1, SV.str (dTake r.7).2.1.2], SV.bool (dTake r.7).2.2] :: (SV.ptr 2 br 0 :: (SV.tuple [SV.agg [SV.int IntKind.i64 (dTake r.7).2.1.1, SV.str (dTake r.7).2.1.2], SV.bool (dTake r.7).2.2] :: (SV.agg [SV.int IntKind.i64 (dTake r.7).2.1.1, SV.str (dTake r.7).2.1.2] :: (SV.bool (dTake r.7).2.2 :: (SV.agg [SV.int IntKind.i64 (dTake s.5).2.1.1, SV.str (dTake s.5).2.1.2] :: (SV.agg [SV.int IntKind.i64 (dTake r.7).2.1.1, SV.str (dTake r.7).2.1.2] :: ((SV.bool !((dTake s.5).2.1.1 == (dTake r.7).2.1.1 && (sEq (dTake s.5).2.1.2 (dTake r.7).2.1.2 && true))) :: (SV.bool false :: (SV.bool (dTake s.5).2.2 :: (SV.bool (dTake r.7).2.2 :: ((SV.bool !(dTake s.5).2.2 == (dTake r.7).2.2) :: (SV.bool false :: (rawR u 72 [] 136))))))))))))))))))) 33))))) 8))))))))))
                    [Ent.mk (Loc.sl ao cap) (SObj.roL 4 encStepP bs (StepP.mk (0 : Int) (0 : Int) (ByteArray.mk #[]) (ByteArray.mk #[]))),
                     pkA bt psE (PS.mk s.1 s.2 ao_1 cap_1 (dTake s.5).1 s.6), pkA br rpE (RPs.mk r.aoL r.2 r.3 r.4 ao_2 cap_2 (dTake r.7).1),
                     Ent.mk (Loc.blk b6) (SObj.cells [SV.int IntKind.i64 x.1, SV.int IntKind.i64 x.2, SV.str x.3, SV.str x.4] (32 : TypeId)),
                     Ent.mk (Loc.blk b) (SObj.cells [SV.int IntKind.i64 (dTake s.5).2.1.1, SV.str (dTake s.5).2.1.2] 49),
                     Ent.mk (Loc.blk b_1) (SObj.cells [SV.int IntKind.i64 (dTake r.7).2.1.1, SV.str (dTake r.7).2.1.2] 49)])) := by kernel_rfl
end Go.Proofs.Ytkcmgcoppecfpaa

