import Derived.Test.YtjnkfgigpapeaaaMgQueuePlays8
import Derived.Test.YtjnkfgigpapeaaaMgQueuePlays5
set_option linter.unusedVariables false
set_option linter.unusedSimpArgs false
set_option linter.unnecessarySimpa false
set_option maxHeartbeats 0
set_option maxRecDepth 100000
namespace Go.Proofs.Ytjnkfgigpapeaaa
open Go Go.RowKit

theorem qw_start (K : List Frm → Sy → Prop) (N : List Ent → SV → Prop) (aoL : Option Addr) (capL : Nat) (bs : List Int) (stop : Int) : (run Try.prog qwT false [] K (retP Try.prog Try.f13.results.toList N) 900 [.code (bodyOf Try.f13)] ⟨padTo 204 [.vec 0 aoL bs.length capL, .int .i64 stop], [⟨.sl aoL capL, .roL 1 encI8 bs 0⟩]⟩) = (
true = true ∧
 ∀ (b : Nat),
  true = true ∧
   match decide ((↑(List.length bs) : Int) > (150 : Int)) with
   | true => N [Ent.mk (Loc.sl aoL capL) (SObj.roL 1 encI8 bs (0 : Int)), Ent.mk (Loc.blk b) (SObj.cells [SV.int IntKind.i64 stop] 3)] (SV.bool true)
   | false =>
    true = true ∧
     58 = (58 : FuncId) ∧
      ∀ (q b_1 : Nat),
       K (frm [] (bodyOf Try.f13) [1, 1, 1, 1, 1, 0, 1, 0] [])
        (Sy.mk (SV.vec 0 aoL (List.length bs) capL :: (SV.int IntKind.i64 stop :: (SV.raw (Value.tuple #[]) :: (SV.ptr 1 b 0 :: (SV.bool false :: (SV.ptr 2 q 0 :: (SV.ptr 3 b_1 0 :: (SV.int IntKind.i64 (0 : Int) :: (rawE (SV.bool true :: (SV.bool false :: (SV.vec 0 aoL (List.length bs) capL :: (SV.int IntKind.i64 (↑(List.length bs) : Int) :: (SV.bool false :: (SV.ptr 2 q 0 :: (rawE [] 176))))))) 14)))))))))
         [Ent.mk (Loc.sl aoL capL) (SObj.roL 1 encI8 bs (0 : Int)), Ent.mk (Loc.blk b) (SObj.cells [SV.int IntKind.i64 stop] 3), pkA q quEP (QUP.mk [] 0),
          Ent.mk (Loc.blk b_1) (SObj.cells [SV.raw (Value.slice (@none Addr) 0 0)] 100)])) := by kernel_rfl


theorem qw_main (K : List Frm → Sy → Prop) (N : List Ent → SV → Prop) (J : Act → World → Prop) (aoL : Option Addr) (capL : Nat) (bs : List Int) (b3 : Nat) (stop : Int) (q : Nat) (n : Nat) (b6 : Nat) (aom : Option Addr) (capm : Nat) (m : List IT) (i : Nat) (u : Nat → Value) : (run Try.prog qwT false [37] K (retP Try.prog Try.f13.results.toList N) 2500 (frm [J] (bodyOf Try.f13) [1, 1, 1, 1, 1, 0, 1, 0, 0] []) ⟨mkT u 204 0 [(0, .vec 0 aoL bs.length capL), (3, .ptr 1 b3 0), (4, .bool false), (5, .ptr 2 q 0), (6, .ptr 3 b6 0), (7, .int .i64 (i : Int))], [⟨.sl aoL capL, .roL 1 encI8 bs 0⟩, ⟨.blk b3, .cells [.int .i64 stop] 3⟩, pkA q quEP ⟨m, n⟩, ⟨.blk b6, .cells [.vec 4 aom m.length capm] 100⟩, ⟨.sl aom capm, .vecL 98 2 encIT m IT.zero⟩]⟩) = (
match decide ((↑i : Int) < (↑(List.length bs) : Int)) with
| true =>
 (aoL = aoL ∧ capL = capL ∧ List.length bs = List.length bs ∧ (0 : Int) ≤ (↑i : Int) ∧ (↑i : Int) < (↑(List.length bs) : Int)) ∧
  (Addr.blkD aoL = Addr.blkD aoL ∧ Addr.offD aoL = Addr.offD aoL ∧ 1 = 1 ∧ Int.toNat (↑i : Int) < List.length bs) ∧
   match decide (List.getD bs (Int.toNat (↑i : Int)) (0 : Int) ≥ (-60 : Int)) with
   | true =>
    (aoL = aoL ∧ capL = capL ∧ List.length bs = List.length bs ∧ (0 : Int) ≤ (↑i : Int) ∧ (↑i : Int) < (↑(List.length bs) : Int)) ∧
     (Addr.blkD aoL = Addr.blkD aoL ∧ Addr.offD aoL = Addr.offD aoL ∧ 1 = 1 ∧ Int.toNat (↑i : Int) < List.length bs) ∧
      (10 : Int) ≠ (0 : Int) ∧
       (true = true ∧ true = true) ∧
        ∀ (b : Nat),
         (b = b ∧ true = true ∧ 2 = 2 ∧ 2 ≤ 2) ∧
          (b = b ∧ 2 = 2) ∧
           true = true ∧
            q = q ∧
             ∃ (h : QUP = QUP),
              AdtIs (fun (s : QUP) (b : Nat) ↦ packs (quEP s b)) quEP ∧
               qOkP (QUP.mk m n) ∧
                ∃ (v : IT),
                 [SV.int IntKind.i64 v.1, SV.int IntKind.i64 v.2] =
                  [SV.int IntKind.i64 (IntKind.wrap IntKind.i64 (Int.tdiv (IntKind.wrap IntKind.i64 (List.getD bs (Int.toNat (↑i : Int)) (0 : Int))) (10 : Int))),
                   SV.int IntKind.i64 (↑i : Int)] ∧
                  b6 = b6 ∧
                   K
                    (frm [J] (bodyOf Try.f13)
                     [1, 1, 1, 1, 1, 0, 1, 0, 0, 1, 0, 0, 0, 0,
                      1, 0, 1, 1, 1, 0, 0]
                     [])
                    (Sy.mk (SV.vec 0 aoL (List.length bs) capL :: (SV.raw (u 1) :: (SV.raw (u 2) :: (SV.ptr 1 b3 0 :: (SV.bool false :: (SV.ptr 2 q 0 :: (SV.ptr 3 b6 0 :: (SV.int IntKind.i64 (↑i : Int) :: (SV.ptr 5 b 0 :: (SV.int IntKind.i64 (↑(List.length m) : Int) :: (rawR u 10 (SV.int IntKind.i64 (↑i : Int) :: (SV.vec 0 aoL (List.length bs) capL :: (SV.int IntKind.i64 (↑(List.length bs) : Int) :: (SV.bool true :: (rawR u 32 (SV.bool true :: (SV.vec 0 aoL (List.length bs) capL :: (SV.int IntKind.i64 (↑i : Int) :: (SV.eptr 0 (Addr.blkD aoL) (Addr.offD aoL) 1 (Int.toNat (↑i : Int)) 0 :: (SV.int IntKind.i8 (List.getD bs (Int.toNat (↑i : Int)) (0 : Int)) :: (SV.bool (decide (List.getD bs (Int.toNat (↑i : Int)) (0 : Int) ≥ (-60 : Int))) :: (SV.vec 0 aoL (List.length bs) capL :: (SV.int IntKind.i64 (↑i : Int) :: (SV.eptr 0 (Addr.blkD aoL) (Addr.offD aoL) 1 (Int.toNat (↑i : Int)) 0 :: (SV.int IntKind.i8 (List.getD bs (Int.toNat (↑i : Int)) (0 : Int)) :: (SV.int IntKind.i64 (IntKind.wrap IntKind.i64 (List.getD bs (Int.toNat (↑i : Int)) (0 : Int))) :: (SV.int IntKind.i64 (IntKind.wrap IntKind.i64 (Int.tdiv (IntKind.wrap IntKind.i64 (List.getD bs (Int.toNat (↑i : Int)) (0 : Int))) (10 : Int))) :: (SV.int IntKind.i64 (↑i : Int) :: (SV.agg [SV.int IntKind.i64 (IntKind.wrap IntKind.i64 (Int.tdiv (IntKind.wrap IntKind.i64 (List.getD bs (Int.toNat (↑i : Int)) (0 : Int))) (10 : Int))), SV.int IntKind.i64 (↑i : Int)] :: (SV.ptr 2 q 0 :: (SV.agg [SV.int IntKind.i64 (IntKind.wrap IntKind.i64 (Int.tdiv (IntKind.wrap IntKind.i64 (List.getD bs (Int.toNat (↑i : Int)) (0 : Int))) (10 : Int))), SV.int IntKind.i64 (↑i : Int)] :: (SV.tuple [] :: (SV.vec 4 aom (List.length m) capm :: (SV.int IntKind.i64 (↑(List.length m) : Int) :: (rawR u 92 [] 112)))))))))))))))))))) 41))))) 18)))))))))))
                     [Ent.mk (Loc.sl aoL capL) (SObj.roL 1 encI8 bs (0 : Int)), Ent.mk (Loc.blk b3) (SObj.cells [SV.int IntKind.i64 stop] (3 : TypeId)),
                      pkA q quEP (QUP.mk (insB (fun (a b : IT) ↦ decide (a.n < b.n)) v m) (n + 1)),
                      Ent.mk (Loc.blk b6) (SObj.cells [SV.vec 4 aom (List.length m) capm] (100 : TypeId)),
                      Ent.mk (Loc.sl aom capm) (SObj.vecL (98 : TypeId) 2 encIT m (IT.mk (0 : Int) (0 : Int))),
                      Ent.mk (Loc.blk b)
                       (SObj.cells
                        [SV.int IntKind.i64 (IntKind.wrap IntKind.i64 (Int.tdiv (IntKind.wrap IntKind.i64 (List.getD bs (Int.toNat (↑i : Int)) (0 : Int))) (10 : Int))),
                         SV.int IntKind.i64 (↑i : Int)]
                        98)])
   | false =>
    (aoL = aoL ∧ capL = capL ∧ List.length bs = List.length bs ∧ (0 : Int) ≤ (↑i : Int) ∧ (↑i : Int) < (↑(List.length bs) : Int)) ∧
     (Addr.blkD aoL = Addr.blkD aoL ∧ Addr.offD aoL = Addr.offD aoL ∧ 1 = 1 ∧ Int.toNat (↑i : Int) < List.length bs) ∧
      match decide (List.getD bs (Int.toNat (↑i : Int)) (0 : Int) ≥ (-110 : Int)) with
      | true =>
       true = true ∧
        q = q ∧
         ∃ (h : QUP = QUP),
          AdtIs (fun (s : QUP) (b : Nat) ↦ packs (quEP s b)) quEP ∧
           qOkP (QUP.mk m n) ∧
            ∀ (b : Nat),
             (b = b ∧ true = true ∧ 2 = 2 ∧ 2 ≤ 2) ∧
              b6 = b6 ∧
               match (↑(List.length m) : Int) == (0 : Int) with
               | true =>
                match
                 (match m with
                  | [] => (130 : Int)
                  | head :: tail => (0 : Int)) !=
                  (130 : Int) with
                | true =>
                 N
                  [Ent.mk (Loc.sl aoL capL) (SObj.roL 1 encI8 bs (0 : Int)), Ent.mk (Loc.blk b3) (SObj.cells [SV.int IntKind.i64 stop] (3 : TypeId)),
                   pkA q quEP (QUP.mk (List.tail m) n), Ent.mk (Loc.blk b6) (SObj.cells [SV.vec 4 aom (List.length m) capm] (100 : TypeId)),
                   Ent.mk (Loc.sl aom capm) (SObj.vecL (98 : TypeId) 2 encIT m (IT.mk (0 : Int) (0 : Int))),
                   Ent.mk (Loc.blk b)
                    (SObj.cells [SV.int IntKind.i64 (List.headD m (IT.mk (0 : Int) (0 : Int))).1, SV.int IntKind.i64 (List.headD m (IT.mk (0 : Int) (0 : Int))).2] 98)]
                  (SV.bool false)
                | false =>
                 (b = b ∧ 2 = 2) ∧
                  (true = true ∧ true = true) ∧
                   match !((List.headD m (IT.mk (0 : Int) (0 : Int))).1 == (0 : Int) && ((List.headD m (IT.mk (0 : Int) (0 : Int))).2 == (0 : Int) && true)) with
                   | true =>
                    N
                     [Ent.mk (Loc.sl aoL capL) (SObj.roL 1 encI8 bs (0 : Int)), Ent.mk (Loc.blk b3) (SObj.cells [SV.int IntKind.i64 stop] (3 : TypeId)),
                      pkA q quEP (QUP.mk (List.tail m) n), Ent.mk (Loc.blk b6) (SObj.cells [SV.vec 4 aom (List.length m) capm] (100 : TypeId)),
                      Ent.mk (Loc.sl aom capm) (SObj.vecL (98 : TypeId) 2 encIT m (IT.mk (0 : Int) (0 : Int))),
                      Ent.mk (Loc.blk b)
                       (SObj.cells [SV.int IntKind.i64 (List.headD m (IT.mk (0 : Int) (0 : Int))).1, SV.int IntKind.i64 (List.headD m (IT.mk (0 : Int) (0 : Int))).2]
                        98)]
                     (SV.bool false)
                   | false =>
                    K (Frm.loop J :: Frm.blk 0 :: frm [] (bodyOf Try.f13) [1, 1, 1, 1, 1, 1] [])
                     (Sy.mk (SV.vec 0 aoL (List.length bs) capL :: (SV.raw (u 1) :: (SV.raw (u 2) :: (SV.ptr 1 b3 0 :: (SV.bool false :: (SV.ptr 2 q 0 :: (SV.ptr 3 b6 0 :: (SV.int IntKind.i64 (IntKind.wrap IntKind.i64 ((↑i : Int) + (1 : Int))) :: (rawR u 8 (SV.ptr 5 b 0 :: ((SV.int IntKind.i64 (match m with | [] => (130 : Int) | head :: tail => (0 : Int))) :: (rawR u 13 (SV.int IntKind.i64 (↑i : Int) :: (SV.vec 0 aoL (List.length bs) capL :: (SV.int IntKind.i64 (↑(List.length bs) : Int) :: (SV.bool true :: (SV.int IntKind.i64 (↑i : Int) :: (SV.int IntKind.i64 (IntKind.wrap IntKind.i64 ((↑i : Int) + (1 : Int))) :: (rawR u 34 (SV.bool false :: (SV.vec 0 aoL (List.length bs) capL :: (SV.int IntKind.i64 (↑i : Int) :: (SV.eptr 0 (Addr.blkD aoL) (Addr.offD aoL) 1 (Int.toNat (↑i : Int)) 0 :: (SV.int IntKind.i8 (List.getD bs (Int.toNat (↑i : Int)) (0 : Int)) :: (SV.bool (decide (List.getD bs (Int.toNat (↑i : Int)) (0 : Int) ≥ (-60 : Int))) :: (rawR u 79 (SV.bool true :: (SV.vec 0 aoL (List.length bs) capL :: (SV.int IntKind.i64 (↑i : Int) :: (SV.eptr 0 (Addr.blkD aoL) (Addr.offD aoL) 1 (Int.toNat (↑i : Int)) 0 :: (SV.int IntKind.i8 (List.getD bs (Int.toNat (↑i : Int)) (0 : Int)) :: (SV.bool (decide (List.getD bs (Int.toNat (↑i : Int)) (0 : Int) ≥ (-110 : Int))) :: ((SV.tuple [SV.agg [SV.int IntKind.i64 (List.headD m (IT.mk (0 : Int) (0 : Int))).1, SV.int IntKind.i64 (List.headD m (IT.mk (0 : Int) (0 : Int))).2], SV.int IntKind.i64 (match m with | [] => (130 : Int) | head :: tail => (0 : Int))]) :: (SV.ptr 2 q 0 :: ((SV.tuple [SV.agg [SV.int IntKind.i64 (List.headD m (IT.mk (0 : Int) (0 : Int))).1, SV.int IntKind.i64 (List.headD m (IT.mk (0 : Int) (0 : Int))).2], SV.int IntKind.i64 (match m with | [] => (130 : Int) | head :: tail => (0 : Int))]) :: (SV.agg [SV.int IntKind.i64 (List.headD m (IT.mk (0 : Int) (0 : Int))).1, SV.int IntKind.i64 (List.headD m (IT.mk (0 : Int) (0 : Int))).2] :: ((SV.int IntKind.i64 (match m with | [] => (130 : Int) | head :: tail => (0 : Int))) :: (SV.vec 4 aom (List.length m) capm :: (SV.int IntKind.i64 (↑(List.length m) : Int) :: (SV.bool true :: ((SV.int IntKind.i64 (match m with | [] => (130 : Int) | head :: tail => (0 : Int))) :: ((SV.bool ((match m with | [] => (130 : Int) | head :: tail => (0 : Int)) != (130 : Int))) :: (SV.bool false :: (SV.agg [SV.int IntKind.i64 (List.headD m (IT.mk (0 : Int) (0 : Int))).1, SV.int IntKind.i64 (List.headD m (IT.mk (0 : Int) (0 : Int))).2] :: (SV.agg [SV.int IntKind.i64 (0 : Int), SV.int IntKind.i64 (0 : Int)] :: ((SV.bool !((List.headD m (IT.mk (0 : Int) (0 : Int))).1 == (0 : Int) && ((List.headD m (IT.mk (0 : Int) (0 : Int))).2 == (0 : Int) && true))) :: (SV.bool false :: (rawR u 140 [] 64)))))))))))))))))))))) 40))))))) 39))))))) 15))) 3)))))))))
                      [Ent.mk (Loc.sl aoL capL) (SObj.roL 1 encI8 bs (0 : Int)), Ent.mk (Loc.blk b3) (SObj.cells [SV.int IntKind.i64 stop] (3 : TypeId)),
                       pkA q quEP (QUP.mk (List.tail m) n), Ent.mk (Loc.blk b6) (SObj.cells [SV.vec 4 aom (List.length m) capm] (100 : TypeId)),
                       Ent.mk (Loc.sl aom capm) (SObj.vecL (98 : TypeId) 2 encIT m (IT.mk (0 : Int) (0 : Int))),
                       Ent.mk (Loc.blk b)
                        (SObj.cells [SV.int IntKind.i64 (List.headD m (IT.mk (0 : Int) (0 : Int))).1, SV.int IntKind.i64 (List.headD m (IT.mk (0 : Int) (0 : Int))).2]
                         98)])
               | false =>
                match
                 (match m with
                  | [] => (130 : Int)
                  | head :: tail => (0 : Int)) !=
                  (0 : Int) with
                | true =>
                 N
                  [Ent.mk (Loc.sl aoL capL) (SObj.roL 1 encI8 bs (0 : Int)), Ent.mk (Loc.blk b3) (SObj.cells [SV.int IntKind.i64 stop] (3 : TypeId)),
                   pkA q quEP (QUP.mk (List.tail m) n), Ent.mk (Loc.blk b6) (SObj.cells [SV.vec 4 aom (List.length m) capm] (100 : TypeId)),
                   Ent.mk (Loc.sl aom capm) (SObj.vecL (98 : TypeId) 2 encIT m (IT.mk (0 : Int) (0 : Int))),
                   Ent.mk (Loc.blk b)
                    (SObj.cells [SV.int IntKind.i64 (List.headD m (IT.mk (0 : Int) (0 : Int))).1, SV.int IntKind.i64 (List.headD m (IT.mk (0 : Int) (0 : Int))).2] 98)]
                  (SV.bool false)
                | false =>
                 (b = b ∧ 2 = 2) ∧
                  b6 = b6 ∧
                   (aom = aom ∧ capm = capm ∧ List.length m = List.length m ∧ (0 : Int) ≤ (0 : Int) ∧ (0 : Int) < (↑(List.length m) : Int)) ∧
                    (Addr.blkD aom = Addr.blkD aom ∧ Addr.offD aom = Addr.offD aom ∧ 2 = 2 ∧ 0 < List.length m ∧ 2 = 2) ∧
                     match
                      !((List.headD m (IT.mk (0 : Int) (0 : Int))).1 == (List.getD m 0 (IT.mk (0 : Int) (0 : Int))).1 &&
                       ((List.headD m (IT.mk (0 : Int) (0 : Int))).2 == (List.getD m 0 (IT.mk (0 : Int) (0 : Int))).2 && true)) with
                     | true =>
                      N
                       [Ent.mk (Loc.sl aoL capL) (SObj.roL 1 encI8 bs (0 : Int)), Ent.mk (Loc.blk b3) (SObj.cells [SV.int IntKind.i64 stop] (3 : TypeId)),
                        pkA q quEP (QUP.mk (List.tail m) n), Ent.mk (Loc.blk b6) (SObj.cells [SV.vec 4 aom (List.length m) capm] (100 : TypeId)),
                        Ent.mk (Loc.sl aom capm) (SObj.vecL (98 : TypeId) 2 encIT m (IT.mk (0 : Int) (0 : Int))),
                        Ent.mk (Loc.blk b)
                         (SObj.cells [SV.int IntKind.i64 (List.headD m (IT.mk (0 : Int) (0 : Int))).1, SV.int IntKind.i64 (List.headD m (IT.mk (0 : Int) (0 : Int))).2]
                          98)]
                       (SV.bool false)
                     | false =>
                      b6 = b6 ∧
                       ((0 : Int) ≤ (1 : Int) ∧ (1 : Int) ≤ (↑(List.length m) : Int) ∧ List.length m ≤ capm) ∧
                        (b6 = b6 ∧ true = true ∧ 1 = 1 ∧ 1 ≤ 1) ∧
                         K (frmR [J] (bodyOf Try.f13) 37)
                          (Sy.mk (SV.vec 0 aoL (List.length bs) capL :: (SV.raw (u 1) :: (SV.raw (u 2) :: (SV.ptr 1 b3 0 :: (SV.bool false :: (SV.ptr 2 q 0 :: (SV.ptr 3 b6 0 :: (SV.int IntKind.i64 (↑i : Int) :: (rawR u 8 (SV.ptr 5 b 0 :: ((SV.int IntKind.i64 (match m with | [] => (130 : Int) | head :: tail => (0 : Int))) :: (rawR u 13 (SV.int IntKind.i64 (↑i : Int) :: (SV.vec 0 aoL (List.length bs) capL :: (SV.int IntKind.i64 (↑(List.length bs) : Int) :: (SV.bool true :: (rawR u 32 (SV.bool false :: (SV.vec 0 aoL (List.length bs) capL :: (SV.int IntKind.i64 (↑i : Int) :: (SV.eptr 0 (Addr.blkD aoL) (Addr.offD aoL) 1 (Int.toNat (↑i : Int)) 0 :: (SV.int IntKind.i8 (List.getD bs (Int.toNat (↑i : Int)) (0 : Int)) :: (SV.bool (decide (List.getD bs (Int.toNat (↑i : Int)) (0 : Int) ≥ (-60 : Int))) :: (rawR u 79 (SV.bool true :: (SV.vec 0 aoL (List.length bs) capL :: (SV.int IntKind.i64 (↑i : Int) :: (SV.eptr 0 (Addr.blkD aoL) (Addr.offD aoL) 1 (Int.toNat (↑i : Int)) 0 :: (SV.int IntKind.i8 (List.getD bs (Int.toNat (↑i : Int)) (0 : Int)) :: (SV.bool (decide (List.getD bs (Int.toNat (↑i : Int)) (0 : Int) ≥ (-110 : Int))) :: ((SV.tuple [SV.agg [SV.int IntKind.i64 (List.headD m (IT.mk (0 : Int) (0 : Int))).1, SV.int IntKind.i64 (List.headD m (IT.mk (0 : Int) (0 : Int))).2], SV.int IntKind.i64 (match m with | [] => (130 : Int) | head :: tail => (0 : Int))]) :: (SV.ptr 2 q 0 :: ((SV.tuple [SV.agg [SV.int IntKind.i64 (List.headD m (IT.mk (0 : Int) (0 : Int))).1, SV.int IntKind.i64 (List.headD m (IT.mk (0 : Int) (0 : Int))).2], SV.int IntKind.i64 (match m with | [] => (130 : Int) | head :: tail => (0 : Int))]) :: (SV.agg [SV.int IntKind.i64 (List.headD m (IT.mk (0 : Int) (0 : Int))).1, SV.int IntKind.i64 (List.headD m (IT.mk (0 : Int) (0 : Int))).2] :: ((SV.int IntKind.i64 (match m with | [] => (130 : Int) | head :: tail => (0 : Int))) :: (SV.vec 4 aom (List.length m) capm :: (SV.int IntKind.i64 (↑(List.length m) : Int) :: (SV.bool false :: (rawR u 133 ((SV.int IntKind.i64 (match m with | [] => (130 : Int) | head :: tail => (0 : Int))) :: ((SV.bool ((match m with | [] => (130 : Int) | head :: tail => (0 : Int)) != (0 : Int))) :: (SV.bool false :: (SV.agg [SV.int IntKind.i64 (List.headD m (IT.mk (0 : Int) (0 : Int))).1, SV.int IntKind.i64 (List.headD m (IT.mk (0 : Int) (0 : Int))).2] :: (SV.vec 4 aom (List.length m) capm :: (SV.eptr 4 (Addr.blkD aom) (Addr.offD aom) 2 0 0 :: (SV.agg [SV.int IntKind.i64 (List.getD m 0 (IT.mk (0 : Int) (0 : Int))).1, SV.int IntKind.i64 (List.getD m 0 (IT.mk (0 : Int) (0 : Int))).2] :: ((SV.bool !((List.headD m (IT.mk (0 : Int) (0 : Int))).1 == (List.getD m 0 (IT.mk (0 : Int) (0 : Int))).1 && ((List.headD m (IT.mk (0 : Int) (0 : Int))).2 == (List.getD m 0 (IT.mk (0 : Int) (0 : Int))).2 && true))) :: (SV.bool false :: (SV.vec 4 aom (List.length m) capm :: (SV.sub 4 aom capm 2 1 (List.length m) :: (rawR u 151 [] 53)))))))))))) 7))))))))))))))) 40))))))) 41))))) 15))) 3)))))))))
                           [Ent.mk (Loc.sl aoL capL) (SObj.roL 1 encI8 bs (0 : Int)), Ent.mk (Loc.blk b3) (SObj.cells [SV.int IntKind.i64 stop] (3 : TypeId)),
                            pkA q quEP (QUP.mk (List.tail m) n),
                            Ent.mk (Loc.blk b6) (SObj.cells [SV.sub 4 aom capm 2 1 (List.length m)] (100 : TypeId)),
                            Ent.mk (Loc.sl aom capm) (SObj.vecL (98 : TypeId) 2 encIT m (IT.mk (0 : Int) (0 : Int))),
                            Ent.mk (Loc.blk b)
                             (SObj.cells [SV.int IntKind.i64 (List.headD m (IT.mk (0 : Int) (0 : Int))).1, SV.int IntKind.i64 (List.headD m (IT.mk (0 : Int) (0 : Int))).2]
                              98)])
      | false =>
       (aoL = aoL ∧ capL = capL ∧ List.length bs = List.length bs ∧ (0 : Int) ≤ (↑i : Int) ∧ (↑i : Int) < (↑(List.length bs) : Int)) ∧
        (Addr.blkD aoL = Addr.blkD aoL ∧ Addr.offD aoL = Addr.offD aoL ∧ 1 = 1 ∧ Int.toNat (↑i : Int) < List.length bs) ∧
         (3 : Int) ≠ (0 : Int) ∧
          ∀ (b : Nat),
           (b = b ∧ true = true ∧ 1 = 1 ∧ 1 ≤ 1) ∧
            true = true ∧
             62 = (62 : FuncId) ∧
              q = q ∧
               ∃ (h : QUP = QUP),
                AdtIs (fun (s : QUP) (b : Nat) ↦ packs (quEP s b)) quEP ∧
                 ∃ (md : Int),
                  some
                   (Ent.mk (Loc.blk b)
                    (SObj.cells
                     [SV.int IntKind.i64
                      (Int.tmod (IntKind.wrap IntKind.i64 (IntKind.wrap IntKind.i64 (List.getD bs (Int.toNat (↑i : Int)) (0 : Int)) + (128 : Int))) (3 : Int))]
                     3)) =
                   some (Ent.mk (Loc.blk b) (SObj.cells [SV.int IntKind.i64 md] (3 : TypeId))) ∧
                   false = false ∧
                    qOkP (cast h (QUP.mk m n)) ∧
                     K
                      (frm [J] (bodyOf Try.f13)
                       [1, 1, 1, 1, 1, 0, 1, 0, 0, 1, 0, 0, 0, 0,
                        1, 1, 1, 1, 1, 1, 1, 0, 1, 0]
                       [])
                      (Sy.mk (SV.vec 0 aoL (List.length bs) capL :: (SV.raw (u 1) :: (SV.raw (u 2) :: (SV.ptr 1 b3 0 :: (SV.bool false :: (SV.ptr 2 q 0 :: (SV.ptr 3 b6 0 :: (SV.int IntKind.i64 (↑i : Int) :: (rawR u 8 (SV.ptr 5 b 0 :: ((SV.int IntKind.i64 ((↑(List.length m) : Int) - (↑(List.length (List.filter (fun (x : IT) ↦ !qPpred md x) m)) : Int))) :: (SV.raw (Value.slice (@none Addr) 0 0) :: (SV.int IntKind.i64 (0 : Int) :: (rawR u 17 (SV.int IntKind.i64 (↑i : Int) :: (SV.vec 0 aoL (List.length bs) capL :: (SV.int IntKind.i64 (↑(List.length bs) : Int) :: (SV.bool true :: (SV.raw (u 32) :: (SV.raw (u 33) :: (SV.vec 0 aoL (List.length bs) capL :: (SV.int IntKind.i64 (↑i : Int) :: (SV.eptr 0 (Addr.blkD aoL) (Addr.offD aoL) 1 (Int.toNat (↑i : Int)) 0 :: (SV.int IntKind.i8 (List.getD bs (Int.toNat (↑i : Int)) (0 : Int)) :: (SV.int IntKind.i64 (IntKind.wrap IntKind.i64 (List.getD bs (Int.toNat (↑i : Int)) (0 : Int))) :: (SV.int IntKind.i64 (IntKind.wrap IntKind.i64 (IntKind.wrap IntKind.i64 (List.getD bs (Int.toNat (↑i : Int)) (0 : Int)) + (128 : Int))) :: (SV.int IntKind.i64 (Int.tmod (IntKind.wrap IntKind.i64 (IntKind.wrap IntKind.i64 (List.getD bs (Int.toNat (↑i : Int)) (0 : Int)) + (128 : Int))) (3 : Int)) :: (SV.ptr 2 q 0 :: (SV.func (Fn.func 62) [] [SV.ptr 5 b 0] :: ((SV.int IntKind.i64 ((↑(List.length m) : Int) - (↑(List.length (List.filter (fun (x : IT) ↦ !qPpred md x) m)) : Int))) :: (rawR u 44 (SV.bool false :: (SV.vec 0 aoL (List.length bs) capL :: (SV.int IntKind.i64 (↑i : Int) :: (SV.eptr 0 (Addr.blkD aoL) (Addr.offD aoL) 1 (Int.toNat (↑i : Int)) 0 :: (SV.int IntKind.i8 (List.getD bs (Int.toNat (↑i : Int)) (0 : Int)) :: (SV.bool (decide (List.getD bs (Int.toNat (↑i : Int)) (0 : Int) ≥ (-60 : Int))) :: (rawR u 79 (SV.bool false :: (SV.vec 0 aoL (List.length bs) capL :: (SV.int IntKind.i64 (↑i : Int) :: (SV.eptr 0 (Addr.blkD aoL) (Addr.offD aoL) 1 (Int.toNat (↑i : Int)) 0 :: (SV.int IntKind.i8 (List.getD bs (Int.toNat (↑i : Int)) (0 : Int)) :: (SV.bool (decide (List.getD bs (Int.toNat (↑i : Int)) (0 : Int) ≥ (-110 : Int))) :: (rawR u 125 [] 79))))))) 40))))))) 29))))))))))))))))) 11))))) 5)))))))))
                       [Ent.mk (Loc.sl aoL capL) (SObj.roL 1 encI8 bs (0 : Int)), Ent.mk (Loc.blk b3) (SObj.cells [SV.int IntKind.i64 stop] (3 : TypeId)),
                        pkA q quEP (QUP.mk (List.filter (fun (x : IT) ↦ !qPpred md x) m) n),
                        Ent.mk (Loc.blk b6) (SObj.cells [SV.vec 4 aom (List.length m) capm] (100 : TypeId)),
                        Ent.mk (Loc.sl aom capm) (SObj.vecL (98 : TypeId) 2 encIT m (IT.mk (0 : Int) (0 : Int))),
                        Ent.mk (Loc.blk b)
                         (SObj.cells
                          [SV.int IntKind.i64
                           (Int.tmod (IntKind.wrap IntKind.i64 (IntKind.wrap IntKind.i64 (List.getD bs (Int.toNat (↑i : Int)) (0 : Int)) + (128 : Int))) (3 : Int))]
                          3)])
| false =>
 K (frm [] (bodyOf Try.f13) [1, 1, 1, 1, 1, 1, 0, 1, 0] [])
  (Sy.mk (SV.vec 0 aoL (List.length bs) capL :: (SV.raw (u 1) :: (SV.raw (u 2) :: (SV.ptr 1 b3 0 :: (SV.bool false :: (SV.ptr 2 q 0 :: (SV.ptr 3 b6 0 :: (SV.int IntKind.i64 (↑i : Int) :: (rawR u 8 (SV.int IntKind.i64 (0 : Int) :: (rawR u 20 (SV.int IntKind.i64 (↑i : Int) :: (SV.vec 0 aoL (List.length bs) capL :: (SV.int IntKind.i64 (↑(List.length bs) : Int) :: (SV.bool false :: (rawR u 32 [] 172))))) 8)) 11)))))))))
   [Ent.mk (Loc.sl aoL capL) (SObj.roL 1 encI8 bs (0 : Int)), Ent.mk (Loc.blk b3) (SObj.cells [SV.int IntKind.i64 stop] (3 : TypeId)), pkA q quEP (QUP.mk m n),
    Ent.mk (Loc.blk b6) (SObj.cells [SV.vec 4 aom (List.length m) capm] (100 : TypeId)), Ent.mk (Loc.sl aom capm) (SObj.vecL (98 : TypeId) 2 encIT m (IT.mk (0 : Int) (0 : Int)))])) := by kernel_rfl
end Go.Proofs.Ytjnkfgigpapeaaa

namespace Go.Proofs.Ytjnkfgigpapeaaa
open Go Go.RowKit

theorem qw_k (K : List Frm → Sy → Prop) (N : List Ent → SV → Prop) (J0 J1 : Act → World → Prop) (aoL : Option Addr) (capL : Nat) (bs : List Int) (b3 : Nat) (stop : Int) (q : Nat) (qs : QUP) (b6 : Nat) (aom : Option Addr) (capm : Nat) (m : List IT) (i k : Nat) (b8 : Nat) (x : IT) (u : Nat → Value) : (run Try.prog [] true [27] K (retP Try.prog Try.f13.results.toList N) 1500 (frm [J0, J1] (bodyOf Try.f13) [1, 1, 1, 1, 1, 0, 1, 0, 0, 1, 0, 0, 0, 0, 1, 0, 1, 1, 1, 0, 0, 0] []) ⟨mkT u 204 0 [(0, .vec 0 aoL bs.length capL), (3, .ptr 1 b3 0), (4, .bool false), (5, .ptr 2 q 0), (6, .ptr 3 b6 0), (7, .int .i64 (i : Int)), (8, .ptr 5 b8 0), (9, .int .i64 (k : Int))], [⟨.sl aoL capL, .roL 1 encI8 bs 0⟩, ⟨.blk b3, .cells [.int .i64 stop] 3⟩, pkA q quEP qs, ⟨.blk b6, .cells [.vec 4 aom m.length capm] 100⟩, ⟨.sl aom capm, .vecL 98 2 encIT m IT.zero⟩, ⟨.blk b8, .cells (encIT x) 98⟩]⟩) = (
match decide ((↑k : Int) > (0 : Int)) with
| true =>
 b6 = b6 ∧
  (aom = aom ∧
   capm = capm ∧ List.length m = List.length m ∧ (0 : Int) ≤ IntKind.wrap IntKind.i64 ((↑k : Int) - (1 : Int)) ∧ IntKind.wrap IntKind.i64 ((↑k : Int) - (1 : Int)) < (↑(List.length m) : Int)) ∧
   (Addr.blkD aom = Addr.blkD aom ∧ Addr.offD aom = Addr.offD aom ∧ 2 = 2 ∧ Int.toNat (IntKind.wrap IntKind.i64 ((↑k : Int) - (1 : Int))) < List.length m) ∧
    b8 = b8 ∧
     match decide ((List.getD m (Int.toNat (IntKind.wrap IntKind.i64 ((↑k : Int) - (1 : Int)))) (IT.mk (0 : Int) (0 : Int))).1 > x.1) with
     | true =>
      K
       (Frm.loop J1 ::
        Frm.blk 5 ::
         frm [J0] (bodyOf Try.f13)
          [1, 1, 1, 1, 1, 0, 1, 0, 0, 1, 0, 0, 0, 0, 1, 0,
           1, 1, 1, 1]
          [])
       (Sy.mk (SV.vec 0 aoL (List.length bs) capL :: (SV.raw (u 1) :: (SV.raw (u 2) :: (SV.ptr 1 b3 0 :: (SV.bool false :: (SV.ptr 2 q 0 :: (SV.ptr 3 b6 0 :: (SV.int IntKind.i64 (↑i : Int) :: (SV.ptr 5 b8 0 :: (SV.int IntKind.i64 (IntKind.wrap IntKind.i64 ((↑k : Int) - (1 : Int))) :: (rawR u 10 (SV.int IntKind.i64 (↑k : Int) :: (SV.bool (decide ((↑k : Int) > (0 : Int))) :: (SV.bool true :: (SV.vec 4 aom (List.length m) capm :: (SV.int IntKind.i64 (↑k : Int) :: (SV.int IntKind.i64 (IntKind.wrap IntKind.i64 ((↑k : Int) - (1 : Int))) :: (SV.eptr 4 (Addr.blkD aom) (Addr.offD aom) 2 (Int.toNat (IntKind.wrap IntKind.i64 ((↑k : Int) - (1 : Int)))) 0 :: (SV.eptr 4 (Addr.blkD aom) (Addr.offD aom) 2 (Int.toNat (IntKind.wrap IntKind.i64 ((↑k : Int) - (1 : Int)))) 0 :: (SV.int IntKind.i64 (List.getD m (Int.toNat (IntKind.wrap IntKind.i64 ((↑k : Int) - (1 : Int)))) (IT.mk (0 : Int) (0 : Int))).1 :: (SV.ptr 5 b8 0 :: (SV.int IntKind.i64 x.1 :: (SV.bool (decide ((List.getD m (Int.toNat (IntKind.wrap IntKind.i64 ((↑k : Int) - (1 : Int)))) (IT.mk (0 : Int) (0 : Int))).1 > x.1)) :: (SV.bool true :: (SV.int IntKind.i64 (↑k : Int) :: (SV.int IntKind.i64 (IntKind.wrap IntKind.i64 ((↑k : Int) - (1 : Int))) :: (rawR u 107 [] 97)))))))))))))))) 82)))))))))))
        [Ent.mk (Loc.sl aoL capL) (SObj.roL 1 encI8 bs (0 : Int)), Ent.mk (Loc.blk b3) (SObj.cells [SV.int IntKind.i64 stop] (3 : TypeId)), pkA q quEP qs,
         Ent.mk (Loc.blk b6) (SObj.cells [SV.vec 4 aom (List.length m) capm] (100 : TypeId)),
         Ent.mk (Loc.sl aom capm) (SObj.vecL (98 : TypeId) 2 encIT m (IT.mk (0 : Int) (0 : Int))),
         Ent.mk (Loc.blk b8) (SObj.cells [SV.int IntKind.i64 x.1, SV.int IntKind.i64 x.2] (98 : TypeId))])
     | false =>
      K (frmR [J0] (bodyOf Try.f13) 27)
       (Sy.mk (SV.vec 0 aoL (List.length bs) capL :: (SV.raw (u 1) :: (SV.raw (u 2) :: (SV.ptr 1 b3 0 :: (SV.bool false :: (SV.ptr 2 q 0 :: (SV.ptr 3 b6 0 :: (SV.int IntKind.i64 (↑i : Int) :: (SV.ptr 5 b8 0 :: (SV.int IntKind.i64 (↑k : Int) :: (rawR u 10 (SV.int IntKind.i64 (↑k : Int) :: (SV.bool (decide ((↑k : Int) > (0 : Int))) :: (SV.bool true :: (SV.vec 4 aom (List.length m) capm :: (SV.int IntKind.i64 (↑k : Int) :: (SV.int IntKind.i64 (IntKind.wrap IntKind.i64 ((↑k : Int) - (1 : Int))) :: (SV.eptr 4 (Addr.blkD aom) (Addr.offD aom) 2 (Int.toNat (IntKind.wrap IntKind.i64 ((↑k : Int) - (1 : Int)))) 0 :: (SV.eptr 4 (Addr.blkD aom) (Addr.offD aom) 2 (Int.toNat (IntKind.wrap IntKind.i64 ((↑k : Int) - (1 : Int)))) 0 :: (SV.int IntKind.i64 (List.getD m (Int.toNat (IntKind.wrap IntKind.i64 ((↑k : Int) - (1 : Int)))) (IT.mk (0 : Int) (0 : Int))).1 :: (SV.ptr 5 b8 0 :: (SV.int IntKind.i64 x.1 :: (SV.bool (decide ((List.getD m (Int.toNat (IntKind.wrap IntKind.i64 ((↑k : Int) - (1 : Int)))) (IT.mk (0 : Int) (0 : Int))).1 > x.1)) :: (SV.bool false :: (rawR u 105 [] 99)))))))))))))) 82)))))))))))
        [Ent.mk (Loc.sl aoL capL) (SObj.roL 1 encI8 bs (0 : Int)), Ent.mk (Loc.blk b3) (SObj.cells [SV.int IntKind.i64 stop] (3 : TypeId)), pkA q quEP qs,
         Ent.mk (Loc.blk b6) (SObj.cells [SV.vec 4 aom (List.length m) capm] (100 : TypeId)),
         Ent.mk (Loc.sl aom capm) (SObj.vecL (98 : TypeId) 2 encIT m (IT.mk (0 : Int) (0 : Int))),
         Ent.mk (Loc.blk b8) (SObj.cells [SV.int IntKind.i64 x.1, SV.int IntKind.i64 x.2] (98 : TypeId))])
| false =>
 K (frmR [J0] (bodyOf Try.f13) 27)
  (Sy.mk (SV.vec 0 aoL (List.length bs) capL :: (SV.raw (u 1) :: (SV.raw (u 2) :: (SV.ptr 1 b3 0 :: (SV.bool false :: (SV.ptr 2 q 0 :: (SV.ptr 3 b6 0 :: (SV.int IntKind.i64 (↑i : Int) :: (SV.ptr 5 b8 0 :: (SV.int IntKind.i64 (↑k : Int) :: (rawR u 10 (SV.int IntKind.i64 (↑k : Int) :: (SV.bool (decide ((↑k : Int) > (0 : Int))) :: (SV.bool false :: (rawE (SV.bool false :: (rawR u 105 [] 99)) 9)))) 82)))))))))))
   [Ent.mk (Loc.sl aoL capL) (SObj.roL 1 encI8 bs (0 : Int)), Ent.mk (Loc.blk b3) (SObj.cells [SV.int IntKind.i64 stop] (3 : TypeId)), pkA q quEP qs,
    Ent.mk (Loc.blk b6) (SObj.cells [SV.vec 4 aom (List.length m) capm] (100 : TypeId)), Ent.mk (Loc.sl aom capm) (SObj.vecL (98 : TypeId) 2 encIT m (IT.mk (0 : Int) (0 : Int))),
    Ent.mk (Loc.blk b8) (SObj.cells [SV.int IntKind.i64 x.1, SV.int IntKind.i64 x.2] (98 : TypeId))])) := by kernel_rfl


theorem qw_27 (K : List Frm → Sy → Prop) (N : List Ent → SV → Prop) (J0 : Act → World → Prop) (aoL : Option Addr) (capL : Nat) (bs : List Int) (b3 : Nat) (stop : Int) (q : Nat) (qs : QUP) (b6 : Nat) (aom : Option Addr) (capm : Nat) (m : List IT) (i k : Nat) (b8 : Nat) (x : IT) (u : Nat → Value) : (run Try.prog [] true [37] K (retP Try.prog Try.f13.results.toList N) 1500 (frmR [J0] (bodyOf Try.f13) 27) ⟨mkT u 204 0 [(0, .vec 0 aoL bs.length capL), (3, .ptr 1 b3 0), (4, .bool false), (5, .ptr 2 q 0), (6, .ptr 3 b6 0), (7, .int .i64 (i : Int)), (8, .ptr 5 b8 0), (9, .int .i64 (k : Int))], [⟨.sl aoL capL, .roL 1 encI8 bs 0⟩, ⟨.blk b3, .cells [.int .i64 stop] 3⟩, pkA q quEP qs, ⟨.blk b6, .cells [.vec 4 aom m.length capm] 100⟩, ⟨.sl aom capm, .vecL 98 2 encIT m IT.zero⟩, ⟨.blk b8, .cells (encIT x) 98⟩]⟩) = (
b6 = b6 ∧
 ((0 : Int) ≤ (↑k : Int) ∧ (↑k : Int) ≤ (↑capm : Int)) ∧
  (aom = aom ∧
   capm = capm ∧
    2 = 2 ∧
     2 = 2 ∧
      0 ≤ Int.toNat (↑k : Int) ∧
       Int.toNat (↑k : Int) ≤ List.length m ∧ (Int.toNat (↑k : Int) - 0) * 16 ≤ 140737488355328 ∧ Int.toNat (↑k : Int) - 0 ≤ 9223372036854775807) ∧
   ∀ (ao2 : Option Addr) (cap2 : Nat),
    Int.toNat (↑k : Int) - 0 ≤ cap2 →
     ((b8 = b8 ∧ 2 = 2) ∧
      ((true = true ∧ 2 = 2 ∧ 0 < 2 ∧ 2 ≤ 16777216) ∧
       ∀ (b : Nat),
        (Ent.mk (Loc.sl aoL capL) (SObj.roL 1 encI8 bs (0 : Int)) = Ent.mk (Loc.sl aoL capL) (SObj.roL 1 encI8 bs (0 : Int)) ∧
         Ent.mk (Loc.blk b3) (SObj.cells [SV.int IntKind.i64 stop] (3 : TypeId)) = Ent.mk (Loc.blk b3) (SObj.cells [SV.int IntKind.i64 stop] (3 : TypeId)) ∧
          pkA q quEP qs = pkA q quEP qs ∧
           Ent.mk (Loc.blk b6) (SObj.cells [SV.vec 4 aom (List.length m) capm] (100 : TypeId)) =
            Ent.mk (Loc.blk b6) (SObj.cells [SV.vec 4 aom (List.length m) capm] (100 : TypeId)) ∧
            Ent.mk (Loc.sl aom capm) (SObj.vecL (98 : TypeId) 2 encIT m (IT.mk (0 : Int) (0 : Int))) =
             Ent.mk (Loc.sl aom capm) (SObj.vecL (98 : TypeId) 2 encIT m (IT.mk (0 : Int) (0 : Int))) ∧
             Ent.mk (Loc.blk b8) (SObj.cells [SV.int IntKind.i64 x.1, SV.int IntKind.i64 x.2] (98 : TypeId)) =
              Ent.mk (Loc.blk b8) (SObj.cells [SV.int IntKind.i64 x.1, SV.int IntKind.i64 x.2] (98 : TypeId)) ∧
              Ent.mk (Loc.sl ao2 cap2) (SObj.vecL 98 2 encIT (List.take (Int.toNat (↑k : Int) - 0) (List.drop 0 m)) (IT.mk (0 : Int) (0 : Int))) =
               Ent.mk (Loc.sl ao2 cap2)
                (SObj.vecL 98 2 encIT (List.take (Int.toNat (↑k : Int) - 0) (List.drop 0 m)) (IT.mk (0 : Int) (0 : Int))) ∧
               True) ∧
         ((ao2 = ao2 ∧
          cap2 = cap2 ∧
           Int.toNat (↑k : Int) - 0 = List.length (List.take (Int.toNat (↑k : Int) - 0) (List.drop 0 m)) ∧
            some (Addr.mk b 0 (@none Nat)) = some (Addr.mk b 0 (@none Nat)) ∧
             98 = 98 ∧
              2 = 2 ∧
               2 = 2 ∧
                0 < 1 ∧
                 true = true ∧
                  (Int.toNat (↑k : Int) - 0 + 1) * 16 ≤ 140737488355328 ∧
                   Int.toNat (↑k : Int) - 0 + 1 ≤ 9223372036854775807) ∧
          ∃ (es : List IT),
           List.length es = 1 ∧
            denL (List.flatMap encIT es) = denL [SV.int IntKind.i64 x.1, SV.int IntKind.i64 x.2] ∧
             ∀ (ao2_1 : Option Addr) (cap2_1 : Nat),
              Int.toNat (↑k : Int) - 0 + 1 ≤ cap2_1 →
               b6 = b6 ∧
                ((0 : Int) ≤ (↑k : Int) ∧ (↑k : Int) ≤ (↑(List.length m) : Int) ∧ List.length m ≤ capm) ∧
                 (ao2_1 = ao2_1 ∧
                  cap2_1 = cap2_1 ∧
                   Int.toNat (↑k : Int) - 0 + 1 = List.length (List.take (Int.toNat (↑k : Int) - 0) (List.drop 0 m) ++ es) ∧
                    98 = 98 ∧
                     2 = 2 ∧
                      aom = aom ∧
                       capm = capm ∧
                        2 = 2 ∧
                         2 = 2 ∧
                          Int.toNat (↑k : Int) ≤ List.length m ∧
                           List.length m ≤ List.length m ∧
                            (∀ (y : IT), true = true) ∧
                             (Int.toNat (↑k : Int) - 0 + 1 + (List.length m - Int.toNat (↑k : Int))) * 16 ≤ 140737488355328 ∧
                              Int.toNat (↑k : Int) - 0 + 1 + (List.length m - Int.toNat (↑k : Int)) ≤ 9223372036854775807) ∧
                  ∃ (es_1 : List IT),
                   List.length es_1 = List.length m - Int.toNat (↑k : Int) ∧
                    denL (List.flatMap encIT es_1) = denL (List.flatMap encIT (List.take (List.length m - Int.toNat (↑k : Int)) (List.drop (Int.toNat (↑k : Int)) m))) ∧
                     ∀ (ao2_2 : Option Addr) (cap2_2 : Nat),
                      Int.toNat (↑k : Int) - 0 + 1 + (List.length m - Int.toNat (↑k : Int)) ≤ cap2_2 →
                       (b6 = b6 ∧ true = true ∧ 1 = 1 ∧ 1 ≤ 1) ∧
                        K (frmR [J0] (bodyOf Try.f13) 37)
                         (Sy.mk (SV.vec 0 aoL (List.length bs) capL :: (SV.raw (u 1) :: (SV.raw (u 2) :: (SV.ptr 1 b3 0 :: (SV.bool false :: (SV.ptr 2 q 0 :: (SV.ptr 3 b6 0 :: (SV.int IntKind.i64 (↑i : Int) :: (SV.ptr 5 b8 0 :: (SV.int IntKind.i64 (↑k : Int) :: (SV.vec 6 ao2 (Int.toNat (↑k : Int) - 0) cap2 :: (rawR u 11 (SV.vec 4 aom (List.length m) capm :: (SV.int IntKind.i64 (↑k : Int) :: (SV.sub 4 aom capm 2 0 (Int.toNat (↑k : Int)) :: (SV.vec 6 ao2 (Int.toNat (↑k : Int) - 0) cap2 :: (SV.vec 6 ao2 (Int.toNat (↑k : Int) - 0) cap2 :: (SV.agg [SV.int IntKind.i64 x.1, SV.int IntKind.i64 x.2] :: (SV.vec 7 (some (Addr.mk b 0 (@none Nat))) 1 1 :: (SV.vec 6 ao2_1 (Int.toNat (↑k : Int) - 0 + 1) cap2_1 :: (SV.vec 4 aom (List.length m) capm :: (SV.int IntKind.i64 (↑k : Int) :: (SV.sub 4 aom capm 2 (Int.toNat (↑k : Int)) (List.length m) :: (SV.vec 6 ao2_2 (Int.toNat (↑k : Int) - 0 + 1 + (List.length m - Int.toNat (↑k : Int))) cap2_2 :: (rawR u 119 [] 85))))))))))))) 96))))))))))))
                          [Ent.mk (Loc.sl aoL capL) (SObj.roL 1 encI8 bs (0 : Int)), Ent.mk (Loc.blk b3) (SObj.cells [SV.int IntKind.i64 stop] (3 : TypeId)),
                           pkA q quEP qs,
                           Ent.mk (Loc.blk b6)
                            (SObj.cells [SV.vec 6 ao2_2 (Int.toNat (↑k : Int) - 0 + 1 + (List.length m - Int.toNat (↑k : Int))) cap2_2]
                             (100 : TypeId)),
                           Ent.mk (Loc.sl aom capm) (SObj.vecL (98 : TypeId) 2 encIT m (IT.mk (0 : Int) (0 : Int))),
                           Ent.mk (Loc.blk b8) (SObj.cells [SV.int IntKind.i64 x.1, SV.int IntKind.i64 x.2] (98 : TypeId)),
                           Ent.mk (Loc.sl ao2_2 cap2_2)
                            (SObj.vecL 98 2 encIT (List.take (Int.toNat (↑k : Int) - 0) (List.drop 0 m) ++ es ++ es_1)
                             (IT.mk (0 : Int) (0 : Int))),
                           Ent.mk (Loc.blk b) (SObj.cells [SV.int IntKind.i64 x.1, SV.int IntKind.i64 x.2] 98)])) ∧
          b6 = b6 ∧
           ((0 : Int) ≤ (↑k : Int) ∧ (↑k : Int) ≤ (↑(List.length m) : Int) ∧ List.length m ≤ capm) ∧
            (ao2 = ao2 ∧
             cap2 = cap2 ∧
              Int.toNat (↑k : Int) - 0 = List.length (List.take (Int.toNat (↑k : Int) - 0) (List.drop 0 m)) ∧
               some (Addr.mk b 0 (@none Nat)) = some (Addr.mk b 0 (@none Nat)) ∧
                98 = 98 ∧
                 2 = 2 ∧
                  2 = 2 ∧
                   0 < 1 ∧
                    true = true ∧
                     (Int.toNat (↑k : Int) - 0 + 1) * 16 ≤ 140737488355328 ∧
                      Int.toNat (↑k : Int) - 0 + 1 ≤ 9223372036854775807) ∧
             ∃ (es : List IT),
              List.length es = 1 ∧
               denL (List.flatMap encIT es) = denL [SV.int IntKind.i64 x.1, SV.int IntKind.i64 x.2] ∧
                ∀ (ao2_1 : Option Addr) (cap2_1 : Nat),
                 Int.toNat (↑k : Int) - 0 + 1 ≤ cap2_1 →
                  (ao2_1 = ao2_1 ∧
                   cap2_1 = cap2_1 ∧
                    Int.toNat (↑k : Int) - 0 + 1 = List.length (List.take (Int.toNat (↑k : Int) - 0) (List.drop 0 m) ++ es) ∧
                     98 = 98 ∧
                      2 = 2 ∧
                       aom = aom ∧
                        capm = capm ∧
                         2 = 2 ∧
                          2 = 2 ∧
                           Int.toNat (↑k : Int) ≤ List.length m ∧
                            List.length m ≤ List.length m ∧
                             (∀ (y : IT), true = true) ∧
                              (Int.toNat (↑k : Int) - 0 + 1 + (List.length m - Int.toNat (↑k : Int))) * 16 ≤ 140737488355328 ∧
                               Int.toNat (↑k : Int) - 0 + 1 + (List.length m - Int.toNat (↑k : Int)) ≤ 9223372036854775807) ∧
                   ∃ (es_1 : List IT),
                    List.length es_1 = List.length m - Int.toNat (↑k : Int) ∧
                     denL (List.flatMap encIT es_1) = denL (List.flatMap encIT (List.take (List.length m - Int.toNat (↑k : Int)) (List.drop (Int.toNat (↑k : Int)) m))) ∧
                      ∀ (ao2_2 : Option Addr) (cap2_2 : Nat),
                       Int.toNat (↑k : Int) - 0 + 1 + (List.length m - Int.toNat (↑k : Int)) ≤ cap2_2 →
                        (b6 = b6 ∧ true = true ∧ 1 = 1 ∧ 1 ≤ 1) ∧
                         K (frmR [J0] (bodyOf Try.f13) 37)
                          (Sy.mk (SV.vec 0 aoL (List.length bs) capL :: (SV.raw (u 1) :: (SV.raw (u 2) :: (SV.ptr 1 b3 0 :: (SV.bool false :: (SV.ptr 2 q 0 :: (SV.ptr 3 b6 0 :: (SV.int IntKind.i64 (↑i : Int) :: (SV.ptr 5 b8 0 :: (SV.int IntKind.i64 (↑k : Int) :: (SV.vec 6 ao2 (Int.toNat (↑k : Int) - 0) cap2 :: (rawR u 11 (SV.vec 4 aom (List.length m) capm :: (SV.int IntKind.i64 (↑k : Int) :: (SV.sub 4 aom capm 2 0 (Int.toNat (↑k : Int)) :: (SV.vec 6 ao2 (Int.toNat (↑k : Int) - 0) cap2 :: (SV.vec 6 ao2 (Int.toNat (↑k : Int) - 0) cap2 :: (SV.agg [SV.int IntKind.i64 x.1, SV.int IntKind.i64 x.2] :: (SV.vec 7 (some (Addr.mk b 0 (@none Nat))) 1 1 :: (SV.vec 6 ao2_1 (Int.toNat (↑k : Int) - 0 + 1) cap2_1 :: (SV.vec 4 aom (List.length m) capm :: (SV.int IntKind.i64 (↑k : Int) :: (SV.sub 4 aom capm 2 (Int.toNat (↑k : Int)) (List.length m) :: (SV.vec 6 ao2_2 (Int.toNat (↑k : Int) - 0 + 1 + (List.length m - Int.toNat (↑k : Int))) cap2_2 :: (rawR u 119 [] 85))))))))))))) 96))))))))))))
                           [Ent.mk (Loc.sl aoL capL) (SObj.roL 1 encI8 bs (0 : Int)), Ent.mk (Loc.blk b3) (SObj.cells [SV.int IntKind.i64 stop] (3 : TypeId)),
                            pkA q quEP qs,
                            Ent.mk (Loc.blk b6)
                             (SObj.cells [SV.vec 6 ao2_2 (Int.toNat (↑k : Int) - 0 + 1 + (List.length m - Int.toNat (↑k : Int))) cap2_2]
                              (100 : TypeId)),
                            Ent.mk (Loc.sl aom capm) (SObj.vecL (98 : TypeId) 2 encIT m (IT.mk (0 : Int) (0 : Int))),
                            Ent.mk (Loc.blk b8) (SObj.cells [SV.int IntKind.i64 x.1, SV.int IntKind.i64 x.2] (98 : TypeId)),
                            Ent.mk (Loc.sl ao2_2 cap2_2)
                             (SObj.vecL 98 2 encIT (List.take (Int.toNat (↑k : Int) - 0) (List.drop 0 m) ++ es ++ es_1)
                              (IT.mk (0 : Int) (0 : Int))),
                            Ent.mk (Loc.blk b) (SObj.cells [SV.int IntKind.i64 x.1, SV.int IntKind.i64 x.2] 98)])) ∧
       b6 = b6 ∧
        ((0 : Int) ≤ (↑k : Int) ∧ (↑k : Int) ≤ (↑(List.length m) : Int) ∧ List.length m ≤ capm) ∧
         (true = true ∧ 2 = 2 ∧ 0 < 2 ∧ 2 ≤ 16777216) ∧
          ∀ (b : Nat),
           (Ent.mk (Loc.sl aoL capL) (SObj.roL 1 encI8 bs (0 : Int)) = Ent.mk (Loc.sl aoL capL) (SObj.roL 1 encI8 bs (0 : Int)) ∧
            Ent.mk (Loc.blk b3) (SObj.cells [SV.int IntKind.i64 stop] (3 : TypeId)) = Ent.mk (Loc.blk b3) (SObj.cells [SV.int IntKind.i64 stop] (3 : TypeId)) ∧
             pkA q quEP qs = pkA q quEP qs ∧
              Ent.mk (Loc.blk b6) (SObj.cells [SV.vec 4 aom (List.length m) capm] (100 : TypeId)) =
               Ent.mk (Loc.blk b6) (SObj.cells [SV.vec 4 aom (List.length m) capm] (100 : TypeId)) ∧
               Ent.mk (Loc.sl aom capm) (SObj.vecL (98 : TypeId) 2 encIT m (IT.mk (0 : Int) (0 : Int))) =
                Ent.mk (Loc.sl aom capm) (SObj.vecL (98 : TypeId) 2 encIT m (IT.mk (0 : Int) (0 : Int))) ∧
                Ent.mk (Loc.blk b8) (SObj.cells [SV.int IntKind.i64 x.1, SV.int IntKind.i64 x.2] (98 : TypeId)) =
                 Ent.mk (Loc.blk b8) (SObj.cells [SV.int IntKind.i64 x.1, SV.int IntKind.i64 x.2] (98 : TypeId)) ∧
                 Ent.mk (Loc.sl ao2 cap2)
                  (SObj.vecL 98 2 encIT (List.take (Int.toNat (↑k : Int) - 0) (List.drop 0 m)) (IT.mk (0 : Int) (0 : Int))) =
                  Ent.mk (Loc.sl ao2 cap2)
                   (SObj.vecL 98 2 encIT (List.take (Int.toNat (↑k : Int) - 0) (List.drop 0 m)) (IT.mk (0 : Int) (0 : Int))) ∧
                  True) ∧
            (ao2 = ao2 ∧
             cap2 = cap2 ∧
              Int.toNat (↑k : Int) - 0 = List.length (List.take (Int.toNat (↑k : Int) - 0) (List.drop 0 m)) ∧
               some (Addr.mk b 0 (@none Nat)) = some (Addr.mk b 0 (@none Nat)) ∧
                98 = 98 ∧
                 2 = 2 ∧
                  2 = 2 ∧
                   0 < 1 ∧
                    true = true ∧
                     (Int.toNat (↑k : Int) - 0 + 1) * 16 ≤ 140737488355328 ∧
                      Int.toNat (↑k : Int) - 0 + 1 ≤ 9223372036854775807) ∧
             ∃ (es : List IT),
              List.length es = 1 ∧
               denL (List.flatMap encIT es) = denL [SV.int IntKind.i64 x.1, SV.int IntKind.i64 x.2] ∧
                ∀ (ao2_1 : Option Addr) (cap2_1 : Nat),
                 Int.toNat (↑k : Int) - 0 + 1 ≤ cap2_1 →
                  (ao2_1 = ao2_1 ∧
                   cap2_1 = cap2_1 ∧
                    Int.toNat (↑k : Int) - 0 + 1 = List.length (List.take (Int.toNat (↑k : Int) - 0) (List.drop 0 m) ++ es) ∧
                     98 = 98 ∧
                      2 = 2 ∧
                       aom = aom ∧
                        capm = capm ∧
                         2 = 2 ∧
                          2 = 2 ∧
                           Int.toNat (↑k : Int) ≤ List.length m ∧
                            List.length m ≤ List.length m ∧
                             (∀ (y : IT), true = true) ∧
                              (Int.toNat (↑k : Int) - 0 + 1 + (List.length m - Int.toNat (↑k : Int))) * 16 ≤ 140737488355328 ∧
                               Int.toNat (↑k : Int) - 0 + 1 + (List.length m - Int.toNat (↑k : Int)) ≤ 9223372036854775807) ∧
                   ∃ (es_1 : List IT),
                    List.length es_1 = List.length m - Int.toNat (↑k : Int) ∧
                     denL (List.flatMap encIT es_1) = denL (List.flatMap encIT (List.take (List.length m - Int.toNat (↑k : Int)) (List.drop (Int.toNat (↑k : Int)) m))) ∧
                      ∀ (ao2_2 : Option Addr) (cap2_2 : Nat),
                       Int.toNat (↑k : Int) - 0 + 1 + (List.length m - Int.toNat (↑k : Int)) ≤ cap2_2 →
                        (b6 = b6 ∧ true = true ∧ 1 = 1 ∧ 1 ≤ 1) ∧
                         K (frmR [J0] (bodyOf Try.f13) 37)
                          (Sy.mk (SV.vec 0 aoL (List.length bs) capL :: (SV.raw (u 1) :: (SV.raw (u 2) :: (SV.ptr 1 b3 0 :: (SV.bool false :: (SV.ptr 2 q 0 :: (SV.ptr 3 b6 0 :: (SV.int IntKind.i64 (↑i : Int) :: (SV.ptr 5 b8 0 :: (SV.int IntKind.i64 (↑k : Int) :: (SV.vec 6 ao2 (Int.toNat (↑k : Int) - 0) cap2 :: (rawR u 11 (SV.vec 4 aom (List.length m) capm :: (SV.int IntKind.i64 (↑k : Int) :: (SV.sub 4 aom capm 2 0 (Int.toNat (↑k : Int)) :: (SV.vec 6 ao2 (Int.toNat (↑k : Int) - 0) cap2 :: (SV.vec 6 ao2 (Int.toNat (↑k : Int) - 0) cap2 :: (SV.agg [SV.int IntKind.i64 x.1, SV.int IntKind.i64 x.2] :: (SV.vec 7 (some (Addr.mk b 0 (@none Nat))) 1 1 :: (SV.vec 6 ao2_1 (Int.toNat (↑k : Int) - 0 + 1) cap2_1 :: (SV.vec 4 aom (List.length m) capm :: (SV.int IntKind.i64 (↑k : Int) :: (SV.sub 4 aom capm 2 (Int.toNat (↑k : Int)) (List.length m) :: (SV.vec 6 ao2_2 (Int.toNat (↑k : Int) - 0 + 1 + (List.length m - Int.toNat (↑k : Int))) cap2_2 :: (rawR u 119 [] 85))))))))))))) 96))))))))))))
                           [Ent.mk (Loc.sl aoL capL) (SObj.roL 1 encI8 bs (0 : Int)), Ent.mk (Loc.blk b3) (SObj.cells [SV.int IntKind.i64 stop] (3 : TypeId)),
                            pkA q quEP qs,
                            Ent.mk (Loc.blk b6)
                             (SObj.cells [SV.vec 6 ao2_2 (Int.toNat (↑k : Int) - 0 + 1 + (List.length m - Int.toNat (↑k : Int))) cap2_2]
                              (100 : TypeId)),
                            Ent.mk (Loc.sl aom capm) (SObj.vecL (98 : TypeId) 2 encIT m (IT.mk (0 : Int) (0 : Int))),
                            Ent.mk (Loc.blk b8) (SObj.cells [SV.int IntKind.i64 x.1, SV.int IntKind.i64 x.2] (98 : TypeId)),
                            Ent.mk (Loc.sl ao2_2 cap2_2)
                             (SObj.vecL 98 2 encIT (List.take (Int.toNat (↑k : Int) - 0) (List.drop 0 m) ++ es ++ es_1)
                              (IT.mk (0 : Int) (0 : Int))),
                            Ent.mk (Loc.blk b) (SObj.cells [SV.int IntKind.i64 x.1, SV.int IntKind.i64 x.2] 98)])) ∧
      b6 = b6 ∧
       ((0 : Int) ≤ (↑k : Int) ∧ (↑k : Int) ≤ (↑(List.length m) : Int) ∧ List.length m ≤ capm) ∧
        (b8 = b8 ∧ 2 = 2) ∧
         (true = true ∧ 2 = 2 ∧ 0 < 2 ∧ 2 ≤ 16777216) ∧
          ∀ (b : Nat),
           (Ent.mk (Loc.sl aoL capL) (SObj.roL 1 encI8 bs (0 : Int)) = Ent.mk (Loc.sl aoL capL) (SObj.roL 1 encI8 bs (0 : Int)) ∧
            Ent.mk (Loc.blk b3) (SObj.cells [SV.int IntKind.i64 stop] (3 : TypeId)) = Ent.mk (Loc.blk b3) (SObj.cells [SV.int IntKind.i64 stop] (3 : TypeId)) ∧
             pkA q quEP qs = pkA q quEP qs ∧
              Ent.mk (Loc.blk b6) (SObj.cells [SV.vec 4 aom (List.length m) capm] (100 : TypeId)) =
               Ent.mk (Loc.blk b6) (SObj.cells [SV.vec 4 aom (List.length m) capm] (100 : TypeId)) ∧
               Ent.mk (Loc.sl aom capm) (SObj.vecL (98 : TypeId) 2 encIT m (IT.mk (0 : Int) (0 : Int))) =
                Ent.mk (Loc.sl aom capm) (SObj.vecL (98 : TypeId) 2 encIT m (IT.mk (0 : Int) (0 : Int))) ∧
                Ent.mk (Loc.blk b8) (SObj.cells [SV.int IntKind.i64 x.1, SV.int IntKind.i64 x.2] (98 : TypeId)) =
                 Ent.mk (Loc.blk b8) (SObj.cells [SV.int IntKind.i64 x.1, SV.int IntKind.i64 x.2] (98 : TypeId)) ∧
                 Ent.mk (Loc.sl ao2 cap2) (SObj.vecL 98 2 encIT (List.take (Int.toNat (↑k : Int) - 0) (List.drop 0 m)) (IT.mk (0 : Int) (0 : Int))) =
                  Ent.mk (Loc.sl ao2 cap2)
                   (SObj.vecL 98 2 encIT (List.take (Int.toNat (↑k : Int) - 0) (List.drop 0 m)) (IT.mk (0 : Int) (0 : Int))) ∧
                  True) ∧
            (ao2 = ao2 ∧
             cap2 = cap2 ∧
              Int.toNat (↑k : Int) - 0 = List.length (List.take (Int.toNat (↑k : Int) - 0) (List.drop 0 m)) ∧
               some (Addr.mk b 0 (@none Nat)) = some (Addr.mk b 0 (@none Nat)) ∧
                98 = 98 ∧
                 2 = 2 ∧
                  2 = 2 ∧
                   0 < 1 ∧
                    true = true ∧
                     (Int.toNat (↑k : Int) - 0 + 1) * 16 ≤ 140737488355328 ∧
                      Int.toNat (↑k : Int) - 0 + 1 ≤ 9223372036854775807) ∧
             ∃ (es : List IT),
              List.length es = 1 ∧
               denL (List.flatMap encIT es) = denL [SV.int IntKind.i64 x.1, SV.int IntKind.i64 x.2] ∧
                ∀ (ao2_1 : Option Addr) (cap2_1 : Nat),
                 Int.toNat (↑k : Int) - 0 + 1 ≤ cap2_1 →
                  (ao2_1 = ao2_1 ∧
                   cap2_1 = cap2_1 ∧
                    Int.toNat (↑k : Int) - 0 + 1 = List.length (List.take (Int.toNat (↑k : Int) - 0) (List.drop 0 m) ++ es) ∧
                     98 = 98 ∧
                      2 = 2 ∧
                       aom = aom ∧
                        capm = capm ∧
                         2 = 2 ∧
                          2 = 2 ∧
                           Int.toNat (↑k : Int) ≤ List.length m ∧
                            List.length m ≤ List.length m ∧
                             (∀ (y : IT), true = true) ∧
                              (Int.toNat (↑k : Int) - 0 + 1 + (List.length m - Int.toNat (↑k : Int))) * 16 ≤ 140737488355328 ∧
                               Int.toNat (↑k : Int) - 0 + 1 + (List.length m - Int.toNat (↑k : Int)) ≤ 9223372036854775807) ∧
                   ∃ (es_1 : List IT),
                    List.length es_1 = List.length m - Int.toNat (↑k : Int) ∧
                     denL (List.flatMap encIT es_1) = denL (List.flatMap encIT (List.take (List.length m - Int.toNat (↑k : Int)) (List.drop (Int.toNat (↑k : Int)) m))) ∧
                      ∀ (ao2_2 : Option Addr) (cap2_2 : Nat),
                       Int.toNat (↑k : Int) - 0 + 1 + (List.length m - Int.toNat (↑k : Int)) ≤ cap2_2 →
                        (b6 = b6 ∧ true = true ∧ 1 = 1 ∧ 1 ≤ 1) ∧
                         K (frmR [J0] (bodyOf Try.f13) 37)
                          (Sy.mk (SV.vec 0 aoL (List.length bs) capL :: (SV.raw (u 1) :: (SV.raw (u 2) :: (SV.ptr 1 b3 0 :: (SV.bool false :: (SV.ptr 2 q 0 :: (SV.ptr 3 b6 0 :: (SV.int IntKind.i64 (↑i : Int) :: (SV.ptr 5 b8 0 :: (SV.int IntKind.i64 (↑k : Int) :: (SV.vec 6 ao2 (Int.toNat (↑k : Int) - 0) cap2 :: (rawR u 11 (SV.vec 4 aom (List.length m) capm :: (SV.int IntKind.i64 (↑k : Int) :: (SV.sub 4 aom capm 2 0 (Int.toNat (↑k : Int)) :: (SV.vec 6 ao2 (Int.toNat (↑k : Int) - 0) cap2 :: (SV.vec 6 ao2 (Int.toNat (↑k : Int) - 0) cap2 :: (SV.agg [SV.int IntKind.i64 x.1, SV.int IntKind.i64 x.2] :: (SV.vec 7 (some (Addr.mk b 0 (@none Nat))) 1 1 :: (SV.vec 6 ao2_1 (Int.toNat (↑k : Int) - 0 + 1) cap2_1 :: (SV.vec 4 aom (List.length m) capm :: (SV.int IntKind.i64 (↑k : Int) :: (SV.sub 4 aom capm 2 (Int.toNat (↑k : Int)) (List.length m) :: (SV.vec 6 ao2_2 (Int.toNat (↑k : Int) - 0 + 1 + (List.length m - Int.toNat (↑k : Int))) cap2_2 :: (rawR u 119 [] 85))))))))))))) 96))))))))))))
                           [Ent.mk (Loc.sl aoL capL) (SObj.roL 1 encI8 bs (0 : Int)), Ent.mk (Loc.blk b3) (SObj.cells [SV.int IntKind.i64 stop] (3 : TypeId)),
                            pkA q quEP qs,
                            Ent.mk (Loc.blk b6)
                             (SObj.cells [SV.vec 6 ao2_2 (Int.toNat (↑k : Int) - 0 + 1 + (List.length m - Int.toNat (↑k : Int))) cap2_2]
                              (100 : TypeId)),
                            Ent.mk (Loc.sl aom capm) (SObj.vecL (98 : TypeId) 2 encIT m (IT.mk (0 : Int) (0 : Int))),
                            Ent.mk (Loc.blk b8) (SObj.cells [SV.int IntKind.i64 x.1, SV.int IntKind.i64 x.2] (98 : TypeId)),
                            Ent.mk (Loc.sl ao2_2 cap2_2)
                             (SObj.vecL 98 2 encIT (List.take (Int.toNat (↑k : Int) - 0) (List.drop 0 m) ++ es ++ es_1)
                              (IT.mk (0 : Int) (0 : Int))),
                            Ent.mk (Loc.blk b) (SObj.cells [SV.int IntKind.i64 x.1, SV.int IntKind.i64 x.2] 98)])) := by kernel_rfl


theorem qw_l (K : List Frm → Sy → Prop) (N : List Ent → SV → Prop) (J0 J1 : Act → World → Prop) (aoL : Option Addr) (capL : Nat) (bs : List Int) (b3 : Nat) (stop : Int) (q : Nat) (qs : QUP) (b6 : Nat) (aom : Option Addr) (capm : Nat) (m : List IT) (i j : Nat) (b13 : Nat) (md nd : Int) (aol : Option Addr) (capl : Nat) (ls : List IT) (u : Nat → Value) : (run Try.prog [] true [18] K (retP Try.prog Try.f13.results.toList N) 1500 (frm [J0, J1] (bodyOf Try.f13) [1, 1, 1, 1, 1, 0, 1, 0, 0, 1, 0, 0, 0, 0, 1, 1, 1, 1, 1, 1, 1, 0, 1, 0, 0] []) ⟨mkT u 204 0 [(0, .vec 0 aoL bs.length capL), (3, .ptr 1 b3 0), (4, .bool false), (5, .ptr 2 q 0), (6, .ptr 3 b6 0), (7, .int .i64 (i : Int)), (13, .ptr 5 b13 0), (14, .int .i64 nd), (15, .vec 6 aol ls.length capl), (16, .int .i64 (j : Int))], [⟨.sl aoL capL, .roL 1 encI8 bs 0⟩, ⟨.blk b3, .cells [.int .i64 stop] 3⟩, pkA q quEP qs, ⟨.blk b6, .cells [.vec 4 aom m.length capm] 100⟩, ⟨.sl aom capm, .vecL 98 2 encIT m IT.zero⟩, ⟨.blk b13, .cells [.int .i64 md] 3⟩, ⟨.sl aol capl, .vecL 98 2 encIT ls IT.zero⟩]⟩) = (
b6 = b6 ∧
 match decide ((↑j : Int) < (↑(List.length m) : Int)) with
 | true =>
  b6 = b6 ∧
   (aom = aom ∧ capm = capm ∧ List.length m = List.length m ∧ (0 : Int) ≤ (↑j : Int) ∧ (↑j : Int) < (↑(List.length m) : Int)) ∧
    (Addr.blkD aom = Addr.blkD aom ∧ Addr.offD aom = Addr.offD aom ∧ 2 = 2 ∧ Int.toNat (↑j : Int) < List.length m) ∧
     (3 : Int) ≠ (0 : Int) ∧
      b13 = b13 ∧
       match Int.tmod (List.getD m (Int.toNat (↑j : Int)) (IT.mk (0 : Int) (0 : Int))).2 (3 : Int) != md with
       | true =>
        b6 = b6 ∧
         (aom = aom ∧ capm = capm ∧ List.length m = List.length m ∧ (0 : Int) ≤ (↑j : Int) ∧ (↑j : Int) < (↑(List.length m) : Int)) ∧
          (Addr.blkD aom = Addr.blkD aom ∧ Addr.offD aom = Addr.offD aom ∧ 2 = 2 ∧ Int.toNat (↑j : Int) < List.length m ∧ 2 = 2) ∧
           (true = true ∧ 2 = 2 ∧ 0 < 2 ∧ 2 ≤ 16777216) ∧
            ∀ (b : Nat),
             (aol = aol ∧
              capl = capl ∧
               List.length ls = List.length ls ∧
                some (Addr.mk b 0 (@none Nat)) = some (Addr.mk b 0 (@none Nat)) ∧
                 (98 : TypeId) = 98 ∧
                  2 = 2 ∧
                   2 = 2 ∧
                    0 < 1 ∧
                     true = true ∧ (List.length ls + 1) * 16 ≤ 140737488355328 ∧ List.length ls + 1 ≤ 9223372036854775807) ∧
              ∃ (es : List IT),
               List.length es = 1 ∧
                denL (List.flatMap encIT es) =
                 denL
                  [SV.int IntKind.i64 (List.getD m (Int.toNat (↑j : Int)) (IT.mk (0 : Int) (0 : Int))).1,
                   SV.int IntKind.i64 (List.getD m (Int.toNat (↑j : Int)) (IT.mk (0 : Int) (0 : Int))).2] ∧
                 ∀ (ao2 : Option Addr) (cap2 : Nat),
                  List.length ls + 1 ≤ cap2 →
                   K
                    (Frm.loop J1 ::
                     Frm.blk 3 ::
                      frm [J0] (bodyOf Try.f13)
                       [1, 1, 1, 1, 1, 0, 1, 0, 0, 1, 0, 0, 0, 0,
                        1, 1, 1, 1, 1, 1, 1, 1]
                       [])
                    (Sy.mk (SV.vec 0 aoL (List.length bs) capL :: (SV.raw (u 1) :: (SV.raw (u 2) :: (SV.ptr 1 b3 0 :: (SV.bool false :: (SV.ptr 2 q 0 :: (SV.ptr 3 b6 0 :: (SV.int IntKind.i64 (↑i : Int) :: (rawR u 8 (SV.ptr 5 b13 0 :: (SV.int IntKind.i64 nd :: (SV.vec 6 ao2 (List.length ls + 1) cap2 :: (SV.int IntKind.i64 (IntKind.wrap IntKind.i64 ((↑j : Int) + (1 : Int))) :: (rawR u 17 (SV.int IntKind.i64 (↑j : Int) :: (SV.vec 4 aom (List.length m) capm :: (SV.int IntKind.i64 (↑(List.length m) : Int) :: (SV.bool true :: (SV.int IntKind.i64 (↑j : Int) :: (SV.int IntKind.i64 (IntKind.wrap IntKind.i64 ((↑j : Int) + (1 : Int))) :: (SV.vec 4 aom (List.length m) capm :: (SV.int IntKind.i64 (↑j : Int) :: (SV.eptr 4 (Addr.blkD aom) (Addr.offD aom) 2 (Int.toNat (↑j : Int)) 0 :: (SV.eptr 4 (Addr.blkD aom) (Addr.offD aom) 2 (Int.toNat (↑j : Int)) 1 :: (SV.int IntKind.i64 (List.getD m (Int.toNat (↑j : Int)) (IT.mk (0 : Int) (0 : Int))).2 :: (SV.int IntKind.i64 (Int.tmod (List.getD m (Int.toNat (↑j : Int)) (IT.mk (0 : Int) (0 : Int))).2 (3 : Int)) :: (SV.int IntKind.i64 md :: (SV.bool true :: (SV.vec 6 aol (List.length ls) capl :: (SV.vec 4 aom (List.length m) capm :: (SV.int IntKind.i64 (↑j : Int) :: (SV.eptr 4 (Addr.blkD aom) (Addr.offD aom) 2 (Int.toNat (↑j : Int)) 0 :: (SV.agg [SV.int IntKind.i64 (List.getD m (Int.toNat (↑j : Int)) (IT.mk (0 : Int) (0 : Int))).1, SV.int IntKind.i64 (List.getD m (Int.toNat (↑j : Int)) (IT.mk (0 : Int) (0 : Int))).2] :: (SV.vec 7 (some (Addr.mk b 0 (@none Nat))) 1 1 :: (SV.vec 6 ao2 (List.length ls + 1) cap2 :: (rawR u 65 [] 139)))))))))))))))))))))) 27))))) 5)))))))))
                     [Ent.mk (Loc.sl aoL capL) (SObj.roL 1 encI8 bs (0 : Int)), Ent.mk (Loc.blk b3) (SObj.cells [SV.int IntKind.i64 stop] (3 : TypeId)), pkA q quEP qs,
                      Ent.mk (Loc.blk b6) (SObj.cells [SV.vec 4 aom (List.length m) capm] (100 : TypeId)),
                      Ent.mk (Loc.sl aom capm) (SObj.vecL (98 : TypeId) 2 encIT m (IT.mk (0 : Int) (0 : Int))),
                      Ent.mk (Loc.blk b13) (SObj.cells [SV.int IntKind.i64 md] (3 : TypeId)),
                      Ent.mk (Loc.sl ao2 cap2) (SObj.vecL (98 : TypeId) 2 encIT (ls ++ es) (IT.mk (0 : Int) (0 : Int))),
                      Ent.mk (Loc.blk b)
                       (SObj.cells
                        [SV.int IntKind.i64 (List.getD m (Int.toNat (↑j : Int)) (IT.mk (0 : Int) (0 : Int))).1,
                         SV.int IntKind.i64 (List.getD m (Int.toNat (↑j : Int)) (IT.mk (0 : Int) (0 : Int))).2]
                        98)])
       | false =>
        K
         (Frm.loop J1 ::
          Frm.blk 3 ::
           frm [J0] (bodyOf Try.f13)
            [1, 1, 1, 1, 1, 0, 1, 0, 0, 1, 0, 0, 0, 0, 1, 1,
             1, 1, 1, 1, 1, 1]
            [])
         (Sy.mk (SV.vec 0 aoL (List.length bs) capL :: (SV.raw (u 1) :: (SV.raw (u 2) :: (SV.ptr 1 b3 0 :: (SV.bool false :: (SV.ptr 2 q 0 :: (SV.ptr 3 b6 0 :: (SV.int IntKind.i64 (↑i : Int) :: (rawR u 8 (SV.ptr 5 b13 0 :: (SV.int IntKind.i64 nd :: (SV.vec 6 aol (List.length ls) capl :: (SV.int IntKind.i64 (IntKind.wrap IntKind.i64 ((↑j : Int) + (1 : Int))) :: (rawR u 17 (SV.int IntKind.i64 (↑j : Int) :: (SV.vec 4 aom (List.length m) capm :: (SV.int IntKind.i64 (↑(List.length m) : Int) :: (SV.bool true :: (SV.int IntKind.i64 (↑j : Int) :: (SV.int IntKind.i64 (IntKind.wrap IntKind.i64 ((↑j : Int) + (1 : Int))) :: (SV.vec 4 aom (List.length m) capm :: (SV.int IntKind.i64 (↑j : Int) :: (SV.eptr 4 (Addr.blkD aom) (Addr.offD aom) 2 (Int.toNat (↑j : Int)) 0 :: (SV.eptr 4 (Addr.blkD aom) (Addr.offD aom) 2 (Int.toNat (↑j : Int)) 1 :: (SV.int IntKind.i64 (List.getD m (Int.toNat (↑j : Int)) (IT.mk (0 : Int) (0 : Int))).2 :: (SV.int IntKind.i64 (Int.tmod (List.getD m (Int.toNat (↑j : Int)) (IT.mk (0 : Int) (0 : Int))).2 (3 : Int)) :: (SV.int IntKind.i64 md :: (SV.bool false :: (rawR u 58 [] 146))))))))))))))) 27))))) 5)))))))))
          [Ent.mk (Loc.sl aoL capL) (SObj.roL 1 encI8 bs (0 : Int)), Ent.mk (Loc.blk b3) (SObj.cells [SV.int IntKind.i64 stop] (3 : TypeId)), pkA q quEP qs,
           Ent.mk (Loc.blk b6) (SObj.cells [SV.vec 4 aom (List.length m) capm] (100 : TypeId)),
           Ent.mk (Loc.sl aom capm) (SObj.vecL (98 : TypeId) 2 encIT m (IT.mk (0 : Int) (0 : Int))), Ent.mk (Loc.blk b13) (SObj.cells [SV.int IntKind.i64 md] (3 : TypeId)),
           Ent.mk (Loc.sl aol capl) (SObj.vecL (98 : TypeId) 2 encIT ls (IT.mk (0 : Int) (0 : Int)))])
 | false =>
  K (frmR [J0] (bodyOf Try.f13) 18)
   (Sy.mk (SV.vec 0 aoL (List.length bs) capL :: (SV.raw (u 1) :: (SV.raw (u 2) :: (SV.ptr 1 b3 0 :: (SV.bool false :: (SV.ptr 2 q 0 :: (SV.ptr 3 b6 0 :: (SV.int IntKind.i64 (↑i : Int) :: (rawR u 8 (SV.ptr 5 b13 0 :: (SV.int IntKind.i64 nd :: (SV.vec 6 aol (List.length ls) capl :: (SV.int IntKind.i64 (↑j : Int) :: (rawR u 17 (SV.int IntKind.i64 (↑j : Int) :: (SV.vec 4 aom (List.length m) capm :: (SV.int IntKind.i64 (↑(List.length m) : Int) :: (SV.bool false :: (rawR u 48 [] 156))))) 27))))) 5)))))))))
    [Ent.mk (Loc.sl aoL capL) (SObj.roL 1 encI8 bs (0 : Int)), Ent.mk (Loc.blk b3) (SObj.cells [SV.int IntKind.i64 stop] (3 : TypeId)), pkA q quEP qs,
     Ent.mk (Loc.blk b6) (SObj.cells [SV.vec 4 aom (List.length m) capm] (100 : TypeId)), Ent.mk (Loc.sl aom capm) (SObj.vecL (98 : TypeId) 2 encIT m (IT.mk (0 : Int) (0 : Int))),
     Ent.mk (Loc.blk b13) (SObj.cells [SV.int IntKind.i64 md] (3 : TypeId)), Ent.mk (Loc.sl aol capl) (SObj.vecL (98 : TypeId) 2 encIT ls (IT.mk (0 : Int) (0 : Int)))])) := by kernel_rfl


theorem qw_18 (K : List Frm → Sy → Prop) (N : List Ent → SV → Prop) (J0 : Act → World → Prop) (aoL : Option Addr) (capL : Nat) (bs : List Int) (b3 : Nat) (stop : Int) (q : Nat) (qs : QUP) (b6 : Nat) (aom : Option Addr) (capm : Nat) (m : List IT) (i j : Nat) (b13 : Nat) (md nd : Int) (aol : Option Addr) (capl : Nat) (ls : List IT) (u : Nat → Value) : (run Try.prog [] true [37] K (retP Try.prog Try.f13.results.toList N) 1500 (frmR [J0] (bodyOf Try.f13) 18) ⟨mkT u 204 0 [(0, .vec 0 aoL bs.length capL), (3, .ptr 1 b3 0), (4, .bool false), (5, .ptr 2 q 0), (6, .ptr 3 b6 0), (7, .int .i64 (i : Int)), (14, .int .i64 nd), (15, .vec 6 aol ls.length capl)], [⟨.sl aoL capL, .roL 1 encI8 bs 0⟩, ⟨.blk b3, .cells [.int .i64 stop] 3⟩, pkA q quEP qs, ⟨.blk b6, .cells [.vec 4 aom m.length capm] 100⟩, ⟨.sl aom capm, .vecL 98 2 encIT m IT.zero⟩, ⟨.blk b13, .cells [.int .i64 md] 3⟩, ⟨.sl aol capl, .vecL 98 2 encIT ls IT.zero⟩]⟩) = (
b6 = b6 ∧
 match nd != IntKind.wrap IntKind.i64 ((↑(List.length m) : Int) - (↑(List.length ls) : Int)) with
 | true =>
  N
   [Ent.mk (Loc.sl aoL capL) (SObj.roL 1 encI8 bs (0 : Int)), Ent.mk (Loc.blk b3) (SObj.cells [SV.int IntKind.i64 stop] (3 : TypeId)), pkA q quEP qs,
    Ent.mk (Loc.blk b6) (SObj.cells [SV.vec 4 aom (List.length m) capm] (100 : TypeId)), Ent.mk (Loc.sl aom capm) (SObj.vecL (98 : TypeId) 2 encIT m (IT.mk (0 : Int) (0 : Int))),
    Ent.mk (Loc.blk b13) (SObj.cells [SV.int IntKind.i64 md] (3 : TypeId)), Ent.mk (Loc.sl aol capl) (SObj.vecL (98 : TypeId) 2 encIT ls (IT.mk (0 : Int) (0 : Int)))]
   (SV.bool false)
 | false =>
  (b6 = b6 ∧ true = true ∧ 1 = 1 ∧ 1 ≤ 1) ∧
   K (frmR [J0] (bodyOf Try.f13) 37)
    (Sy.mk (SV.vec 0 aoL (List.length bs) capL :: (SV.raw (u 1) :: (SV.raw (u 2) :: (SV.ptr 1 b3 0 :: (SV.bool false :: (SV.ptr 2 q 0 :: (SV.ptr 3 b6 0 :: (SV.int IntKind.i64 (↑i : Int) :: (rawR u 8 (SV.int IntKind.i64 nd :: (SV.vec 6 aol (List.length ls) capl :: (rawR u 16 (SV.int IntKind.i64 nd :: (SV.vec 4 aom (List.length m) capm :: (SV.int IntKind.i64 (↑(List.length m) : Int) :: (SV.vec 6 aol (List.length ls) capl :: (SV.int IntKind.i64 (↑(List.length ls) : Int) :: (SV.int IntKind.i64 (IntKind.wrap IntKind.i64 ((↑(List.length m) : Int) - (↑(List.length ls) : Int))) :: (SV.bool false :: (SV.vec 6 aol (List.length ls) capl :: (rawR u 73 [] 131))))))))) 49))) 6)))))))))
     [Ent.mk (Loc.sl aoL capL) (SObj.roL 1 encI8 bs (0 : Int)), Ent.mk (Loc.blk b3) (SObj.cells [SV.int IntKind.i64 stop] (3 : TypeId)), pkA q quEP qs,
      Ent.mk (Loc.blk b6) (SObj.cells [SV.vec 6 aol (List.length ls) capl] (100 : TypeId)),
      Ent.mk (Loc.sl aom capm) (SObj.vecL (98 : TypeId) 2 encIT m (IT.mk (0 : Int) (0 : Int))), Ent.mk (Loc.blk b13) (SObj.cells [SV.int IntKind.i64 md] (3 : TypeId)),
      Ent.mk (Loc.sl aol capl) (SObj.vecL (98 : TypeId) 2 encIT ls (IT.mk (0 : Int) (0 : Int)))])) := by kernel_rfl


theorem qw_37 (K : List Frm → Sy → Prop) (N : List Ent → SV → Prop) (J0 : Act → World → Prop) (aoL : Option Addr) (capL : Nat) (bs : List Int) (b3 : Nat) (stop : Int) (q : Nat) (n : Nat) (b6 : Nat) (aom : Option Addr) (capm : Nat) (m : List IT) (i : Nat) (u : Nat → Value) : (run Try.prog qwT true [] K (retP Try.prog Try.f13.results.toList N) 2500 (frmR [J0] (bodyOf Try.f13) 37) ⟨mkT u 204 0 [(0, .vec 0 aoL bs.length capL), (3, .ptr 1 b3 0), (4, .bool false), (5, .ptr 2 q 0), (6, .ptr 3 b6 0), (7, .int .i64 (i : Int))], [⟨.sl aoL capL, .roL 1 encI8 bs 0⟩, ⟨.blk b3, .cells [.int .i64 stop] 3⟩, pkA q quEP ⟨m, n⟩, ⟨.blk b6, .cells [.vec 4 aom m.length capm] 100⟩, ⟨.sl aom capm, .vecL 98 2 encIT m IT.zero⟩]⟩) = (
true = true ∧
 q = q ∧
  ∃ (h : QUP = QUP),
   AdtIs (fun (s : QUP) (b : Nat) ↦ packs (quEP s b)) quEP ∧
    qOkP (QUP.mk m n) ∧
     ∀ (b : Nat),
      (b = b ∧ true = true ∧ 2 = 2 ∧ 2 ≤ 2) ∧
       b6 = b6 ∧
        true = true ∧
         q = q ∧
          ∃ (h : QUP = QUP),
           AdtIs (fun (s : QUP) (b : Nat) ↦ packs (quEP s b)) quEP ∧
            qOkP (QUP.mk m n) ∧
             (Ent.mk (Loc.sl aoL capL) (SObj.roL 1 encI8 bs (0 : Int)) = Ent.mk (Loc.sl aoL capL) (SObj.roL 1 encI8 bs (0 : Int)) ∧
              Ent.mk (Loc.blk b3) (SObj.cells [SV.int IntKind.i64 stop] (3 : TypeId)) = Ent.mk (Loc.blk b3) (SObj.cells [SV.int IntKind.i64 stop] (3 : TypeId)) ∧
               pkA q quEP (QUP.mk m n) = pkA q quEP (QUP.mk m n) ∧
                Ent.mk (Loc.blk b6) (SObj.cells [SV.vec 4 aom (List.length m) capm] (100 : TypeId)) =
                 Ent.mk (Loc.blk b6) (SObj.cells [SV.vec 4 aom (List.length m) capm] (100 : TypeId)) ∧
                 Ent.mk (Loc.sl aom capm) (SObj.vecL (98 : TypeId) 2 encIT m (IT.mk (0 : Int) (0 : Int))) =
                  Ent.mk (Loc.sl aom capm) (SObj.vecL (98 : TypeId) 2 encIT m (IT.mk (0 : Int) (0 : Int))) ∧
                  Ent.mk (Loc.blk b)
                   (SObj.cells [SV.int IntKind.i64 (List.headD m (IT.mk (0 : Int) (0 : Int))).1, SV.int IntKind.i64 (List.headD m (IT.mk (0 : Int) (0 : Int))).2] 98) =
                   Ent.mk (Loc.blk b)
                    (SObj.cells [SV.int IntKind.i64 (List.headD m (IT.mk (0 : Int) (0 : Int))).1, SV.int IntKind.i64 (List.headD m (IT.mk (0 : Int) (0 : Int))).2] 98) ∧
                   True) ∧
              match (↑(List.length m) : Int) != (↑(List.length m) : Int) with
              | true =>
               true = true ∧
                true = true ∧
                 true = true ∧
                  true = true ∧
                   true = true ∧
                    N
                     [Ent.mk (Loc.sl aoL capL) (SObj.roL 1 encI8 bs (0 : Int)), Ent.mk (Loc.blk b3) (SObj.cells [SV.int IntKind.i64 stop] (3 : TypeId)),
                      pkA q quEP (QUP.mk m n), Ent.mk (Loc.blk b6) (SObj.cells [SV.vec 4 aom (List.length m) capm] (100 : TypeId)),
                      Ent.mk (Loc.sl aom capm) (SObj.vecL (98 : TypeId) 2 encIT m (IT.mk (0 : Int) (0 : Int))),
                      Ent.mk (Loc.blk b)
                       (SObj.cells [SV.int IntKind.i64 (List.headD m (IT.mk (0 : Int) (0 : Int))).1, SV.int IntKind.i64 (List.headD m (IT.mk (0 : Int) (0 : Int))).2]
                        98)]
                     (SV.bool false)
              | false =>
               b6 = b6 ∧
                match
                 !(match m with
                  | [] => false
                  | head :: tail => true) ==
                  decide ((↑(List.length m) : Int) > (0 : Int)) with
                | true =>
                 true = true ∧
                  true = true ∧
                   true = true ∧
                    true = true ∧
                     true = true ∧
                      N
                       [Ent.mk (Loc.sl aoL capL) (SObj.roL 1 encI8 bs (0 : Int)), Ent.mk (Loc.blk b3) (SObj.cells [SV.int IntKind.i64 stop] (3 : TypeId)),
                        pkA q quEP (QUP.mk m n), Ent.mk (Loc.blk b6) (SObj.cells [SV.vec 4 aom (List.length m) capm] (100 : TypeId)),
                        Ent.mk (Loc.sl aom capm) (SObj.vecL (98 : TypeId) 2 encIT m (IT.mk (0 : Int) (0 : Int))),
                        Ent.mk (Loc.blk b)
                         (SObj.cells [SV.int IntKind.i64 (List.headD m (IT.mk (0 : Int) (0 : Int))).1, SV.int IntKind.i64 (List.headD m (IT.mk (0 : Int) (0 : Int))).2]
                          98)]
                       (SV.bool false)
                | false =>
                 match
                  match m with
                  | [] => false
                  | head :: tail => true with
                 | true =>
                  (b = b ∧ 2 = 2) ∧
                   b6 = b6 ∧
                    (aom = aom ∧ capm = capm ∧ List.length m = List.length m ∧ (0 : Int) ≤ (0 : Int) ∧ (0 : Int) < (↑(List.length m) : Int)) ∧
                     (Addr.blkD aom = Addr.blkD aom ∧ Addr.offD aom = Addr.offD aom ∧ 2 = 2 ∧ 0 < List.length m ∧ 2 = 2) ∧
                      match
                       !((List.headD m (IT.mk (0 : Int) (0 : Int))).1 == (List.getD m 0 (IT.mk (0 : Int) (0 : Int))).1 &&
                        ((List.headD m (IT.mk (0 : Int) (0 : Int))).2 == (List.getD m 0 (IT.mk (0 : Int) (0 : Int))).2 && true)) with
                      | true =>
                       N
                        [Ent.mk (Loc.sl aoL capL) (SObj.roL 1 encI8 bs (0 : Int)), Ent.mk (Loc.blk b3) (SObj.cells [SV.int IntKind.i64 stop] (3 : TypeId)),
                         pkA q quEP (QUP.mk m n), Ent.mk (Loc.blk b6) (SObj.cells [SV.vec 4 aom (List.length m) capm] (100 : TypeId)),
                         Ent.mk (Loc.sl aom capm) (SObj.vecL (98 : TypeId) 2 encIT m (IT.mk (0 : Int) (0 : Int))),
                         Ent.mk (Loc.blk b)
                          (SObj.cells [SV.int IntKind.i64 (List.headD m (IT.mk (0 : Int) (0 : Int))).1, SV.int IntKind.i64 (List.headD m (IT.mk (0 : Int) (0 : Int))).2]
                           98)]
                        (SV.bool false)
                      | false =>
                       K (Frm.loop J0 :: Frm.blk 0 :: frm [] (bodyOf Try.f13) [1, 1, 1, 1, 1, 1] [])
                        (Sy.mk (SV.vec 0 aoL (List.length bs) capL :: (SV.raw (u 1) :: (SV.raw (u 2) :: (SV.ptr 1 b3 0 :: (SV.bool false :: (SV.ptr 2 q 0 :: (SV.ptr 3 b6 0 :: (SV.int IntKind.i64 (IntKind.wrap IntKind.i64 ((↑i : Int) + (1 : Int))) :: (rawR u 8 (SV.ptr 5 b 0 :: ((SV.bool (match m with | [] => false | head :: tail => true)) :: (rawR u 19 (SV.int IntKind.i64 (↑i : Int) :: (SV.int IntKind.i64 (IntKind.wrap IntKind.i64 ((↑i : Int) + (1 : Int))) :: (rawR u 34 ((SV.tuple [SV.agg [SV.int IntKind.i64 (List.headD m (IT.mk (0 : Int) (0 : Int))).1, SV.int IntKind.i64 (List.headD m (IT.mk (0 : Int) (0 : Int))).2], SV.bool (match m with | [] => false | head :: tail => true)]) :: (SV.ptr 2 q 0 :: ((SV.tuple [SV.agg [SV.int IntKind.i64 (List.headD m (IT.mk (0 : Int) (0 : Int))).1, SV.int IntKind.i64 (List.headD m (IT.mk (0 : Int) (0 : Int))).2], SV.bool (match m with | [] => false | head :: tail => true)]) :: (SV.agg [SV.int IntKind.i64 (List.headD m (IT.mk (0 : Int) (0 : Int))).1, SV.int IntKind.i64 (List.headD m (IT.mk (0 : Int) (0 : Int))).2] :: ((SV.bool (match m with | [] => false | head :: tail => true)) :: (SV.ptr 2 q 0 :: (SV.int IntKind.i64 (↑(List.length m) : Int) :: (SV.vec 4 aom (List.length m) capm :: (SV.int IntKind.i64 (↑(List.length m) : Int) :: ((SV.bool ((↑(List.length m) : Int) != (↑(List.length m) : Int))) :: (SV.bool false :: ((SV.bool (match m with | [] => false | head :: tail => true)) :: (SV.vec 4 aom (List.length m) capm :: (SV.int IntKind.i64 (↑(List.length m) : Int) :: (SV.bool (decide ((↑(List.length m) : Int) > (0 : Int))) :: ((SV.bool !(match m with | [] => false | head :: tail => true) == decide ((↑(List.length m) : Int) > (0 : Int))) :: ((SV.bool !(match m with | [] => false | head :: tail => true) == decide ((↑(List.length m) : Int) > (0 : Int))) :: (SV.bool false :: ((SV.bool (match m with | [] => false | head :: tail => true)) :: (SV.bool true :: (SV.agg [SV.int IntKind.i64 (List.headD m (IT.mk (0 : Int) (0 : Int))).1, SV.int IntKind.i64 (List.headD m (IT.mk (0 : Int) (0 : Int))).2] :: (SV.vec 4 aom (List.length m) capm :: (SV.eptr 4 (Addr.blkD aom) (Addr.offD aom) 2 0 0 :: (SV.agg [SV.int IntKind.i64 (List.getD m 0 (IT.mk (0 : Int) (0 : Int))).1, SV.int IntKind.i64 (List.getD m 0 (IT.mk (0 : Int) (0 : Int))).2] :: ((SV.bool !((List.headD m (IT.mk (0 : Int) (0 : Int))).1 == (List.getD m 0 (IT.mk (0 : Int) (0 : Int))).1 && ((List.headD m (IT.mk (0 : Int) (0 : Int))).2 == (List.getD m 0 (IT.mk (0 : Int) (0 : Int))).2 && true))) :: ((SV.bool !((List.headD m (IT.mk (0 : Int) (0 : Int))).1 == (List.getD m 0 (IT.mk (0 : Int) (0 : Int))).1 && ((List.headD m (IT.mk (0 : Int) (0 : Int))).2 == (List.getD m 0 (IT.mk (0 : Int) (0 : Int))).2 && true))) :: (SV.bool false :: (rawR u 178 [] 26)))))))))))))))))))))))))))) 117))) 13))) 9)))))))))
                         [Ent.mk (Loc.sl aoL capL) (SObj.roL 1 encI8 bs (0 : Int)), Ent.mk (Loc.blk b3) (SObj.cells [SV.int IntKind.i64 stop] (3 : TypeId)),
                          pkA q quEP (QUP.mk m n), Ent.mk (Loc.blk b6) (SObj.cells [SV.vec 4 aom (List.length m) capm] (100 : TypeId)),
                          Ent.mk (Loc.sl aom capm) (SObj.vecL (98 : TypeId) 2 encIT m (IT.mk (0 : Int) (0 : Int))),
                          Ent.mk (Loc.blk b)
                           (SObj.cells [SV.int IntKind.i64 (List.headD m (IT.mk (0 : Int) (0 : Int))).1, SV.int IntKind.i64 (List.headD m (IT.mk (0 : Int) (0 : Int))).2]
                            98)])
                 | false =>
                  K (Frm.loop J0 :: Frm.blk 0 :: frm [] (bodyOf Try.f13) [1, 1, 1, 1, 1, 1] [])
                   (Sy.mk (SV.vec 0 aoL (List.length bs) capL :: (SV.raw (u 1) :: (SV.raw (u 2) :: (SV.ptr 1 b3 0 :: (SV.bool false :: (SV.ptr 2 q 0 :: (SV.ptr 3 b6 0 :: (SV.int IntKind.i64 (IntKind.wrap IntKind.i64 ((↑i : Int) + (1 : Int))) :: (rawR u 8 (SV.ptr 5 b 0 :: ((SV.bool (match m with | [] => false | head :: tail => true)) :: (rawR u 19 (SV.int IntKind.i64 (↑i : Int) :: (SV.int IntKind.i64 (IntKind.wrap IntKind.i64 ((↑i : Int) + (1 : Int))) :: (rawR u 34 ((SV.tuple [SV.agg [SV.int IntKind.i64 (List.headD m (IT.mk (0 : Int) (0 : Int))).1, SV.int IntKind.i64 (List.headD m (IT.mk (0 : Int) (0 : Int))).2], SV.bool (match m with | [] => false | head :: tail => true)]) :: (SV.ptr 2 q 0 :: ((SV.tuple [SV.agg [SV.int IntKind.i64 (List.headD m (IT.mk (0 : Int) (0 : Int))).1, SV.int IntKind.i64 (List.headD m (IT.mk (0 : Int) (0 : Int))).2], SV.bool (match m with | [] => false | head :: tail => true)]) :: (SV.agg [SV.int IntKind.i64 (List.headD m (IT.mk (0 : Int) (0 : Int))).1, SV.int IntKind.i64 (List.headD m (IT.mk (0 : Int) (0 : Int))).2] :: ((SV.bool (match m with | [] => false | head :: tail => true)) :: (SV.ptr 2 q 0 :: (SV.int IntKind.i64 (↑(List.length m) : Int) :: (SV.vec 4 aom (List.length m) capm :: (SV.int IntKind.i64 (↑(List.length m) : Int) :: ((SV.bool ((↑(List.length m) : Int) != (↑(List.length m) : Int))) :: (SV.bool false :: ((SV.bool (match m with | [] => false | head :: tail => true)) :: (SV.vec 4 aom (List.length m) capm :: (SV.int IntKind.i64 (↑(List.length m) : Int) :: (SV.bool (decide ((↑(List.length m) : Int) > (0 : Int))) :: ((SV.bool !(match m with | [] => false | head :: tail => true) == decide ((↑(List.length m) : Int) > (0 : Int))) :: ((SV.bool !(match m with | [] => false | head :: tail => true) == decide ((↑(List.length m) : Int) > (0 : Int))) :: (SV.bool false :: ((SV.bool (match m with | [] => false | head :: tail => true)) :: (SV.bool false :: (rawE (SV.bool false :: (SV.bool false :: (rawR u 178 [] 26))) 5))))))))))))))))))))) 117))) 13))) 9)))))))))
                    [Ent.mk (Loc.sl aoL capL) (SObj.roL 1 encI8 bs (0 : Int)), Ent.mk (Loc.blk b3) (SObj.cells [SV.int IntKind.i64 stop] (3 : TypeId)),
                     pkA q quEP (QUP.mk m n), Ent.mk (Loc.blk b6) (SObj.cells [SV.vec 4 aom (List.length m) capm] (100 : TypeId)),
                     Ent.mk (Loc.sl aom capm) (SObj.vecL (98 : TypeId) 2 encIT m (IT.mk (0 : Int) (0 : Int))),
                     Ent.mk (Loc.blk b)
                      (SObj.cells [SV.int IntKind.i64 (List.headD m (IT.mk (0 : Int) (0 : Int))).1, SV.int IntKind.i64 (List.headD m (IT.mk (0 : Int) (0 : Int))).2] 98)])) := by kernel_rfl


theorem qw_f (K : List Frm → Sy → Prop) (N : List Ent → SV → Prop) (J : Act → World → Prop) (aoL : Option Addr) (capL : Nat) (bs : List Int) (b3 : Nat) (stop : Int) (q : Nat) (n : Nat) (b6 : Nat) (aom : Option Addr) (capm : Nat) (m : List IT) (r : Nat) (u : Nat → Value) : (run Try.prog qwT true [] K (retP Try.prog Try.f13.results.toList N) 2500 (frm [J] (bodyOf Try.f13) [1, 1, 1, 1, 1, 1, 0, 1, 0, 0] []) ⟨mkT u 204 0 [(0, .vec 0 aoL bs.length capL), (3, .ptr 1 b3 0), (4, .bool false), (5, .ptr 2 q 0), (6, .ptr 3 b6 0), (19, .int .i64 (r : Int))], [⟨.sl aoL capL, .roL 1 encI8 bs 0⟩, ⟨.blk b3, .cells [.int .i64 stop] 3⟩, pkA q quEP ⟨m, n⟩, ⟨.blk b6, .cells [.vec 4 aom m.length capm] 100⟩, ⟨.sl aom capm, .vecL 98 2 encIT m IT.zero⟩]⟩) = (
match decide ((↑r : Int) < (2 : Int)) with
| true =>
 ∀ (b : Nat),
  (b = b ∧ true = true ∧ 1 = 1 ∧ 1 ≤ 1) ∧
   ∀ (b_1 : Nat),
    (b_1 = b_1 ∧ true = true ∧ 1 = 1 ∧ 1 ≤ 1) ∧
     true = true ∧
      true = true ∧
       ∀ (b_2 : Nat),
        true = true ∧
         66 = (66 : FuncId) ∧
          ∃ (lq : Nat),
           ∃ (q_1 : Nat),
            ∃ (lv : Nat),
             ∃ (m_1 : List IT),
              ∃ (n_1 : Nat),
               ∃ (stop_1 : Int),
                ∃ (aom_1 : Option Addr),
                 ∃ (capm_1 : Nat),
                  some (Ent.mk (Loc.blk b_2) (SObj.cells [SV.ptr 2 q 0] 95)) =
                   some (Ent.mk (Loc.blk b_2) (SObj.cells [SV.ptr lq q_1 0] (95 : TypeId))) ∧
                   nth
                    [Ent.mk (Loc.sl aoL capL) (SObj.roL 1 encI8 bs (0 : Int)), Ent.mk (Loc.blk b3) (SObj.cells [SV.int IntKind.i64 stop] (3 : TypeId)),
                     pkA q quEP (QUP.mk m n), Ent.mk (Loc.blk b6) (SObj.cells [SV.vec 4 aom (List.length m) capm] (100 : TypeId)),
                     Ent.mk (Loc.sl aom capm) (SObj.vecL (98 : TypeId) 2 encIT m (IT.mk (0 : Int) (0 : Int))),
                     Ent.mk (Loc.blk b) (SObj.cells [SV.int IntKind.i64 (0 : Int)] 3), Ent.mk (Loc.blk b_1) (SObj.cells [SV.bool true] 4),
                     Ent.mk (Loc.blk b_2) (SObj.cells [SV.ptr 2 q 0] 95)]
                    lq =
                    some (pkA q_1 quEP (QUP.mk m_1 n_1)) ∧
                    some (Ent.mk (Loc.blk b_1) (SObj.cells [SV.bool true] 4)) = some (Ent.mk (Loc.blk b_1) (SObj.cells [SV.bool true] (4 : TypeId))) ∧
                     some (Ent.mk (Loc.blk b) (SObj.cells [SV.int IntKind.i64 (0 : Int)] 3)) =
                      some (Ent.mk (Loc.blk b) (SObj.cells [SV.int IntKind.i64 (0 : Int)] (3 : TypeId))) ∧
                      some (Ent.mk (Loc.blk b6) (SObj.cells [SV.vec 4 aom (List.length m) capm] (100 : TypeId))) =
                       some (Ent.mk (Loc.blk b6) (SObj.cells [SV.vec lv aom_1 (List.length m_1) capm_1] (100 : TypeId))) ∧
                       some (Ent.mk (Loc.blk b3) (SObj.cells [SV.int IntKind.i64 stop] (3 : TypeId))) =
                        some (Ent.mk (Loc.blk b3) (SObj.cells [SV.int IntKind.i64 stop_1] (3 : TypeId))) ∧
                        nth
                         [Ent.mk (Loc.sl aoL capL) (SObj.roL 1 encI8 bs (0 : Int)), Ent.mk (Loc.blk b3) (SObj.cells [SV.int IntKind.i64 stop] (3 : TypeId)),
                          pkA q quEP (QUP.mk m n), Ent.mk (Loc.blk b6) (SObj.cells [SV.vec 4 aom (List.length m) capm] (100 : TypeId)),
                          Ent.mk (Loc.sl aom capm) (SObj.vecL (98 : TypeId) 2 encIT m (IT.mk (0 : Int) (0 : Int))),
                          Ent.mk (Loc.blk b) (SObj.cells [SV.int IntKind.i64 (0 : Int)] 3), Ent.mk (Loc.blk b_1) (SObj.cells [SV.bool true] 4),
                          Ent.mk (Loc.blk b_2) (SObj.cells [SV.ptr 2 q 0] 95)]
                         lv =
                         some (Ent.mk (Loc.sl aom_1 capm_1) (SObj.vecL (98 : TypeId) 2 encIT m_1 (IT.mk (0 : Int) (0 : Int)))) ∧
                         distinct [lq, 7, 6, 5, 3, 1, lv] = true ∧
                          qOkP (QUP.mk m_1 n_1) ∧
                           ∀ (k : Nat),
                            (↑k : Int) = stop_1 ∨ k = List.length m_1 →
                             b_1 = b_1 ∧
                              b = b ∧
                               b6 = b6 ∧
                                match (↑k : Int) != (↑(List.length m) : Int) with
                                | true =>
                                 b = b ∧
                                  b3 = b3 ∧
                                   match (↑k : Int) != stop with
                                   | true =>
                                    N
                                     [Ent.mk (Loc.sl aoL capL) (SObj.roL 1 encI8 bs (0 : Int)),
                                      Ent.mk (Loc.blk b3) (SObj.cells [SV.int IntKind.i64 stop] (3 : TypeId)), pkA q quEP (QUP.mk m n),
                                      Ent.mk (Loc.blk b6) (SObj.cells [SV.vec 4 aom (List.length m) capm] (100 : TypeId)),
                                      Ent.mk (Loc.sl aom capm) (SObj.vecL (98 : TypeId) 2 encIT m (IT.mk (0 : Int) (0 : Int))),
                                      Ent.mk (Loc.blk b) (SObj.cells [SV.int IntKind.i64 (↑k : Int)] (3 : TypeId)),
                                      Ent.mk (Loc.blk b_1) (SObj.cells [SV.bool true] 4),
                                      Ent.mk (Loc.blk b_2) (SObj.cells [SV.ptr 2 q 0] 95)]
                                     (SV.bool false)
                                   | false =>
                                    K
                                     (Frm.loop J ::
                                      Frm.blk 7 ::
                                       frm [] (bodyOf Try.f13) [1, 1, 1, 1, 1, 1, 1] [])
                                     (Sy.mk (SV.vec 0 aoL (List.length bs) capL :: (SV.raw (u 1) :: (SV.raw (u 2) :: (SV.ptr 1 b3 0 :: (SV.bool false :: (SV.ptr 2 q 0 :: (SV.ptr 3 b6 0 :: (rawR u 7 (SV.int IntKind.i64 (IntKind.wrap IntKind.i64 ((↑r : Int) + (1 : Int))) :: (SV.ptr 5 b 0 :: (SV.ptr 6 b_1 0 :: (rawR u 22 (SV.int IntKind.i64 (↑r : Int) :: (SV.bool true :: (SV.int IntKind.i64 (↑r : Int) :: (SV.int IntKind.i64 (IntKind.wrap IntKind.i64 ((↑r : Int) + (1 : Int))) :: (SV.ptr 2 q 0 :: (SV.func (Fn.func 93) [] [SV.ptr 7 b_2 0] :: (SV.func (Fn.func 66) [] [SV.ptr 6 b_1 0, SV.ptr 5 b 0, SV.ptr 3 b6 0, SV.ptr 1 b3 0] :: (SV.tuple [] :: (SV.bool true :: (SV.bool false :: (SV.bool false :: (SV.int IntKind.i64 (↑k : Int) :: (SV.vec 4 aom (List.length m) capm :: (SV.int IntKind.i64 (↑(List.length m) : Int) :: ((SV.bool ((↑k : Int) != (↑(List.length m) : Int))) :: (SV.bool true :: (SV.int IntKind.i64 (↑k : Int) :: (SV.int IntKind.i64 stop :: ((SV.bool ((↑k : Int) != stop)) :: ((SV.bool ((↑k : Int) != stop)) :: (SV.bool false :: (rawR u 199 [] 5)))))))))))))))))))))) 156)))) 12))))))))
                                      [Ent.mk (Loc.sl aoL capL) (SObj.roL 1 encI8 bs (0 : Int)),
                                       Ent.mk (Loc.blk b3) (SObj.cells [SV.int IntKind.i64 stop] (3 : TypeId)), pkA q quEP (QUP.mk m n),
                                       Ent.mk (Loc.blk b6) (SObj.cells [SV.vec 4 aom (List.length m) capm] (100 : TypeId)),
                                       Ent.mk (Loc.sl aom capm) (SObj.vecL (98 : TypeId) 2 encIT m (IT.mk (0 : Int) (0 : Int))),
                                       Ent.mk (Loc.blk b) (SObj.cells [SV.int IntKind.i64 (↑k : Int)] (3 : TypeId)),
                                       Ent.mk (Loc.blk b_1) (SObj.cells [SV.bool true] 4),
                                       Ent.mk (Loc.blk b_2) (SObj.cells [SV.ptr 2 q 0] 95)])
                                | false =>
                                 K
                                  (Frm.loop J ::
                                   Frm.blk 7 :: frm [] (bodyOf Try.f13) [1, 1, 1, 1, 1, 1, 1] [])
                                  (Sy.mk (SV.vec 0 aoL (List.length bs) capL :: (SV.raw (u 1) :: (SV.raw (u 2) :: (SV.ptr 1 b3 0 :: (SV.bool false :: (SV.ptr 2 q 0 :: (SV.ptr 3 b6 0 :: (rawR u 7 (SV.int IntKind.i64 (IntKind.wrap IntKind.i64 ((↑r : Int) + (1 : Int))) :: (SV.ptr 5 b 0 :: (SV.ptr 6 b_1 0 :: (rawR u 22 (SV.int IntKind.i64 (↑r : Int) :: (SV.bool true :: (SV.int IntKind.i64 (↑r : Int) :: (SV.int IntKind.i64 (IntKind.wrap IntKind.i64 ((↑r : Int) + (1 : Int))) :: (SV.ptr 2 q 0 :: (SV.func (Fn.func 93) [] [SV.ptr 7 b_2 0] :: (SV.func (Fn.func 66) [] [SV.ptr 6 b_1 0, SV.ptr 5 b 0, SV.ptr 3 b6 0, SV.ptr 1 b3 0] :: (SV.tuple [] :: (SV.bool true :: (SV.bool false :: (SV.bool false :: (SV.int IntKind.i64 (↑k : Int) :: (SV.vec 4 aom (List.length m) capm :: (SV.int IntKind.i64 (↑(List.length m) : Int) :: ((SV.bool ((↑k : Int) != (↑(List.length m) : Int))) :: (SV.bool false :: (rawE (SV.bool false :: (SV.bool false :: (rawR u 199 [] 5))) 3))))))))))))))))) 156)))) 12))))))))
                                   [Ent.mk (Loc.sl aoL capL) (SObj.roL 1 encI8 bs (0 : Int)),
                                    Ent.mk (Loc.blk b3) (SObj.cells [SV.int IntKind.i64 stop] (3 : TypeId)), pkA q quEP (QUP.mk m n),
                                    Ent.mk (Loc.blk b6) (SObj.cells [SV.vec 4 aom (List.length m) capm] (100 : TypeId)),
                                    Ent.mk (Loc.sl aom capm) (SObj.vecL (98 : TypeId) 2 encIT m (IT.mk (0 : Int) (0 : Int))),
                                    Ent.mk (Loc.blk b) (SObj.cells [SV.int IntKind.i64 (↑k : Int)] (3 : TypeId)),
                                    Ent.mk (Loc.blk b_1) (SObj.cells [SV.bool true] 4),
                                    Ent.mk (Loc.blk b_2) (SObj.cells [SV.ptr 2 q 0] 95)])
| false =>
 b6 = b6 ∧
  true = true ∧
   q = q ∧
    ∃ (h : QUP = QUP),
     AdtIs (fun (s : QUP) (b : Nat) ↦ packs (quEP s b)) quEP ∧
      qOkP (QUP.mk m n) ∧
       (Ent.mk (Loc.sl aoL capL) (SObj.roL 1 encI8 bs (0 : Int)) = Ent.mk (Loc.sl aoL capL) (SObj.roL 1 encI8 bs (0 : Int)) ∧
        Ent.mk (Loc.blk b3) (SObj.cells [SV.int IntKind.i64 stop] (3 : TypeId)) = Ent.mk (Loc.blk b3) (SObj.cells [SV.int IntKind.i64 stop] (3 : TypeId)) ∧
         pkA q quEP (QUP.mk m n) = pkA q quEP (QUP.mk m n) ∧
          Ent.mk (Loc.blk b6) (SObj.cells [SV.vec 4 aom (List.length m) capm] (100 : TypeId)) =
           Ent.mk (Loc.blk b6) (SObj.cells [SV.vec 4 aom (List.length m) capm] (100 : TypeId)) ∧
           Ent.mk (Loc.sl aom capm) (SObj.vecL (98 : TypeId) 2 encIT m (IT.mk (0 : Int) (0 : Int))) =
            Ent.mk (Loc.sl aom capm) (SObj.vecL (98 : TypeId) 2 encIT m (IT.mk (0 : Int) (0 : Int))) ∧
            True) ∧
        N
         [Ent.mk (Loc.sl aoL capL) (SObj.roL 1 encI8 bs (0 : Int)), Ent.mk (Loc.blk b3) (SObj.cells [SV.int IntKind.i64 stop] (3 : TypeId)), pkA q quEP (QUP.mk m n),
          Ent.mk (Loc.blk b6) (SObj.cells [SV.vec 4 aom (List.length m) capm] (100 : TypeId)),
          Ent.mk (Loc.sl aom capm) (SObj.vecL (98 : TypeId) 2 encIT m (IT.mk (0 : Int) (0 : Int)))]
         (SV.bool ((↑(List.length m) : Int) == (↑(List.length m) : Int)))) := by kernel_rfl


theorem qw2_run (K : List Frm → Sy → Prop) (N : List Ent → SV → Prop) (b21 b20 b6 b3 : Nat) (o : Bool) (a stop : Int) (aom : Option Addr) (capm : Nat) (m : List IT) (x : IT) : (run Try.prog [] false [] K (retP Try.prog Try.f66.results.toList N) 900 [.code (bodyOf Try.f66)] ⟨padTo 30 [.agg (encIT x), .ptr 0 b21 0, .ptr 1 b20 0, .ptr 2 b6 0, .ptr 4 b3 0], [⟨.blk b21, .cells [.bool o] 4⟩, ⟨.blk b20, .cells [.int .i64 a] 3⟩, ⟨.blk b6, .cells [.vec 3 aom m.length capm] 100⟩, ⟨.sl aom capm, .vecL 98 2 encIT m IT.zero⟩, ⟨.blk b3, .cells [.int .i64 stop] 3⟩]⟩) = (
true = true ∧
 ∀ (b : Nat),
  b21 = b21 ∧
   match o with
   | true =>
    b20 = b20 ∧
     b6 = b6 ∧
      match decide (a < (↑(List.length m) : Int)) with
      | true =>
       (b = b ∧ 2 = 2) ∧
        b6 = b6 ∧
         b20 = b20 ∧
          (aom = aom ∧ capm = capm ∧ List.length m = List.length m ∧ (0 : Int) ≤ a ∧ a < (↑(List.length m) : Int)) ∧
           (Addr.blkD aom = Addr.blkD aom ∧ Addr.offD aom = Addr.offD aom ∧ 2 = 2 ∧ Int.toNat a < List.length m ∧ 2 = 2) ∧
            (b21 = b21 ∧ true = true ∧ 1 = 1 ∧ 1 ≤ 1) ∧
             b20 = b20 ∧
              (b20 = b20 ∧ true = true ∧ 1 = 1 ∧ 1 ≤ 1) ∧
               b21 = b21 ∧
                match x.1 == (List.getD m (Int.toNat a) (IT.mk (0 : Int) (0 : Int))).1 && (x.2 == (List.getD m (Int.toNat a) (IT.mk (0 : Int) (0 : Int))).2 && true) with
                | true =>
                 b20 = b20 ∧
                  b3 = b3 ∧
                   N
                    [Ent.mk (Loc.blk b21)
                     (SObj.cells
                      [SV.bool (x.1 == (List.getD m (Int.toNat a) (IT.mk (0 : Int) (0 : Int))).1 && (x.2 == (List.getD m (Int.toNat a) (IT.mk (0 : Int) (0 : Int))).2 && true))]
                      (4 : TypeId)),
                     Ent.mk (Loc.blk b20) (SObj.cells [SV.int IntKind.i64 (IntKind.wrap IntKind.i64 (a + (1 : Int)))] (3 : TypeId)),
                     Ent.mk (Loc.blk b6) (SObj.cells [SV.vec 3 aom (List.length m) capm] (100 : TypeId)),
                     Ent.mk (Loc.sl aom capm) (SObj.vecL (98 : TypeId) 2 encIT m (IT.mk (0 : Int) (0 : Int))),
                     Ent.mk (Loc.blk b3) (SObj.cells [SV.int IntKind.i64 stop] (3 : TypeId)),
                     Ent.mk (Loc.blk b) (SObj.cells [SV.int IntKind.i64 x.1, SV.int IntKind.i64 x.2] 98)]
                    (SV.bool (IntKind.wrap IntKind.i64 (a + (1 : Int)) != stop))
                | false =>
                 N
                  [Ent.mk (Loc.blk b21)
                   (SObj.cells
                    [SV.bool (x.1 == (List.getD m (Int.toNat a) (IT.mk (0 : Int) (0 : Int))).1 && (x.2 == (List.getD m (Int.toNat a) (IT.mk (0 : Int) (0 : Int))).2 && true))]
                    (4 : TypeId)),
                   Ent.mk (Loc.blk b20) (SObj.cells [SV.int IntKind.i64 (IntKind.wrap IntKind.i64 (a + (1 : Int)))] (3 : TypeId)),
                   Ent.mk (Loc.blk b6) (SObj.cells [SV.vec 3 aom (List.length m) capm] (100 : TypeId)),
                   Ent.mk (Loc.sl aom capm) (SObj.vecL (98 : TypeId) 2 encIT m (IT.mk (0 : Int) (0 : Int))),
                   Ent.mk (Loc.blk b3) (SObj.cells [SV.int IntKind.i64 stop] (3 : TypeId)),
                   Ent.mk (Loc.blk b) (SObj.cells [SV.int IntKind.i64 x.1, SV.int IntKind.i64 x.2] 98)]
                  (SV.bool false)
      | false =>
       (b21 = b21 ∧ true = true ∧ 1 = 1 ∧ 1 ≤ 1) ∧
        b20 = b20 ∧
         (b20 = b20 ∧ true = true ∧ 1 = 1 ∧ 1 ≤ 1) ∧
          b21 = b21 ∧
           N
            [Ent.mk (Loc.blk b21) (SObj.cells [SV.bool false] (4 : TypeId)), Ent.mk (Loc.blk b20) (SObj.cells [SV.int IntKind.i64 (IntKind.wrap IntKind.i64 (a + (1 : Int)))] (3 : TypeId)),
             Ent.mk (Loc.blk b6) (SObj.cells [SV.vec 3 aom (List.length m) capm] (100 : TypeId)),
             Ent.mk (Loc.sl aom capm) (SObj.vecL (98 : TypeId) 2 encIT m (IT.mk (0 : Int) (0 : Int))), Ent.mk (Loc.blk b3) (SObj.cells [SV.int IntKind.i64 stop] (3 : TypeId)),
             Ent.mk (Loc.blk b) (SObj.cells [SV.int IntKind.i64 x.1, SV.int IntKind.i64 x.2] 98)]
            (SV.bool false)
   | false =>
    (b21 = b21 ∧ true = true ∧ 1 = 1 ∧ 1 ≤ 1) ∧
     b20 = b20 ∧
      (b20 = b20 ∧ true = true ∧ 1 = 1 ∧ 1 ≤ 1) ∧
       b21 = b21 ∧
        N
         [Ent.mk (Loc.blk b21) (SObj.cells [SV.bool false] (4 : TypeId)), Ent.mk (Loc.blk b20) (SObj.cells [SV.int IntKind.i64 (IntKind.wrap IntKind.i64 (a + (1 : Int)))] (3 : TypeId)),
          Ent.mk (Loc.blk b6) (SObj.cells [SV.vec 3 aom (List.length m) capm] (100 : TypeId)),
          Ent.mk (Loc.sl aom capm) (SObj.vecL (98 : TypeId) 2 encIT m (IT.mk (0 : Int) (0 : Int))), Ent.mk (Loc.blk b3) (SObj.cells [SV.int IntKind.i64 stop] (3 : TypeId)),
          Ent.mk (Loc.blk b) (SObj.cells [SV.int IntKind.i64 x.1, SV.int IntKind.i64 x.2] 98)]
         (SV.bool false)) := by kernel_rfl
end Go.Proofs.Ytjnkfgigpapeaaa

/- queue.Queue[int]: its elements. -/
namespace Go.Proofs.Ytjnkfgigpapeaaa
open Go Go.RowKit
def encItI (x : Int × Int) : List SV := [.int .i64 x.1, .int .i64 x.2]
end Go.Proofs.Ytjnkfgigpapeaaa

