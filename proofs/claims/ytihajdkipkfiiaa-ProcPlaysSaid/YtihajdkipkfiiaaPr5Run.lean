import Derived.Test.YtihajdkipkfiiaaPrcD
import Derived.Test.YtihajdkipkfiiaaTab
namespace Go.Proofs.Ytihajdkipkfiiaa
set_option linter.unusedVariables false
open Go Go.RowKit
set_option maxHeartbeats 0
set_option maxRecDepth 100000
set_option maxRecDepth 100000

theorem al_start (K : List Frm → Sy → Prop) (X : Code → Sy → Prop) (E : Sy → Prop) (s : PT) (b bt : Nat) (fv : Value) (R : Nat → List Ent) (Stop : PT → List Ent → Prop) : (runR Try.prog ptG (all1Y fv s b R Stop) true [] K X E 300 [.code (bodyOf Try.f97)] ⟨padTo 32 [.raw fv, .ptr 3 bt 0], [⟨.blk b, .cells [.map 1 s.bm, .int .i64 s.room, .int .i64 s.last] 130⟩, ⟨.blk s.bm, .mapL (some .i64) encB1 (s.ps.map pkey)⟩, pk 0 (s.ps.map procE), ⟨.blk bt, .cells [.ptr 0 b 0] 38⟩, pk 0 (R 0)]⟩) = (
bt = bt ∧
 b = b ∧
  true = true ∧
   true = true ∧
    ∀ (b_1 : Nat),
     true = true ∧
      111 = 111 ∧
       (b_1 = b_1 ∧ s.1 = s.1 ∧ some IntKind.i64 = some IntKind.i64 ∧ wfI (List.map pkey s.2)) ∧
        ∀ (ao : Option Addr) (cap : Nat),
         K (frm [] (bodyOf Try.f97) [1, 0] [])
          (Sy.mk
           [SV.raw fv, SV.ptr 3 bt 0, SV.raw (Value.tuple #[]), SV.raw (Value.tuple #[]), SV.raw (Value.tuple #[]), SV.raw (Value.tuple #[]), SV.raw (Value.tuple #[]),
            SV.ptr 0 b 0, SV.ptr 0 b 0, SV.ptr 0 b 0, SV.map 1 s.1,
            SV.func (Fn.func 111) [] [SV.ptr 5 b_1 0], SV.vec 6 ao (List.length (sortI (List.map pkey s.2))) cap,
            SV.int IntKind.i64 (↑(List.length (sortI (List.map pkey s.2))) : Int), SV.int IntKind.i64 (0 : Int), SV.raw (Value.tuple #[]), SV.raw (Value.tuple #[]),
            SV.raw (Value.tuple #[]), SV.raw (Value.tuple #[]), SV.raw (Value.tuple #[]), SV.raw (Value.tuple #[]), SV.raw (Value.tuple #[]), SV.raw (Value.tuple #[]),
            SV.raw (Value.tuple #[]), SV.raw (Value.tuple #[]), SV.raw (Value.tuple #[]), SV.raw (Value.tuple #[]), SV.raw (Value.tuple #[]), SV.raw (Value.tuple #[]),
            SV.raw (Value.tuple #[]), SV.raw (Value.tuple #[]), SV.raw (Value.tuple #[])]
           [Ent.mk (Loc.blk b) (SObj.cells [SV.map 1 s.1, SV.int IntKind.i64 s.3, SV.int IntKind.i64 s.4] (130 : TypeId)),
            Ent.mk (Loc.blk s.1) (SObj.mapL (some IntKind.i64) encB1 (List.map pkey s.2)), pk 0 (List.map procE s.2),
            Ent.mk (Loc.blk bt) (SObj.cells [SV.ptr 0 b 0] (38 : TypeId)), pk 0 (R 0), Ent.mk (Loc.blk b_1) (SObj.cells [SV.map 1 s.1] 128),
            Ent.mk (Loc.sl ao cap) (SObj.vecL 3 1 encI1 (sortI (List.map pkey s.2)) (0 : Int))])) := by kernel_rfl


theorem al_body (K : List Frm → Sy → Prop) (X : Code → Sy → Prop) (E : Sy → Prop) (J : Act → World → Prop) (s : PT) (b bt : Nat) (fv : Value) (R : Nat → List Ent) (Stop : PT → List Ent → Prop) (aok : Option Addr) (capk : Nat) (ks : List Int) (i : Nat) (u : Nat → Value) : (runR Try.prog ptG (all1Y fv s b R Stop) true [] K X E 900 (frm [J] (bodyOf Try.f97) [1, 0, 0] []) ⟨mkT u 32 0 [(0, .raw fv), (1, .ptr 1 bt 0), (12, .vec 3 aok ks.length capk), (13, .int .i64 (ks.length : Int)), (14, .int .i64 (i : Int))], [pkA b ptE s, ⟨.blk bt, .cells [.ptr 0 b 0] 38⟩, pk 0 (R i), ⟨.sl aok capk, .vecL 3 1 encI1 ks 0⟩]⟩) = (
match decide ((↑i : Int) < (↑(List.length ks) : Int)) with
| true =>
 (aok = aok ∧ capk = capk ∧ List.length ks = List.length ks ∧ (0 : Int) ≤ (↑i : Int) ∧ (↑i : Int) < (↑(List.length ks) : Int)) ∧
  (Addr.blkD aok = Addr.blkD aok ∧ Addr.offD aok = Addr.offD aok ∧ 1 = 1 ∧ Int.toNat (↑i : Int) < List.length ks) ∧
   bt = bt ∧
    true = true ∧
     b = b ∧
      ∃ (h : PT = PT),
       AdtIs (fun (s : PT) (b : Nat) ↦ packs (ptE s b)) ptE ∧
        pOk s ∧
         ∀ (b_1 : Nat),
          (b_1 = b_1 ∧ true = true ∧ 6 = 6 ∧ 6 ≤ 6) ∧
           match pHas s (List.getD ks (Int.toNat (↑i : Int)) (0 : Int)) with
           | true =>
            (b_1 = b_1 ∧ 6 = 6) ∧
             fv = fv ∧
              ∃ (i_1 : Nat),
               ∃ (x : Nat × PR),
                s.2[i_1]? = some x ∧
                 [SV.agg
                  [SV.int IntKind.i64 (pGet s (List.getD ks (Int.toNat (↑i : Int)) (0 : Int))).1, SV.int IntKind.i64 (pGet s (List.getD ks (Int.toNat (↑i : Int)) (0 : Int))).2,
                   SV.str (pGet s (List.getD ks (Int.toNat (↑i : Int)) (0 : Int))).3, SV.bool (pGet s (List.getD ks (Int.toNat (↑i : Int)) (0 : Int))).4,
                   SV.int IntKind.i64 (pGet s (List.getD ks (Int.toNat (↑i : Int)) (0 : Int))).5, SV.str (pGet s (List.getD ks (Int.toNat (↑i : Int)) (0 : Int))).6]] =
                  [SV.agg [SV.int IntKind.i64 x.2.1, SV.int IntKind.i64 x.2.2, SV.str x.2.3, SV.bool x.2.4, SV.int IntKind.i64 x.2.5, SV.str x.2.6]] ∧
                  pkA b ptE s = pkA b ptE s ∧
                   pk 0 (R i) = pk 0 (R i_1) ∧
                    K [Frm.loop J, Frm.blk 0]
                     (Sy.mk
                      [SV.raw fv, SV.ptr 1 bt 0, SV.raw (u 2), SV.raw (u 3), SV.int IntKind.i64 (List.getD ks (Int.toNat (↑i : Int)) (0 : Int)),
                       SV.ptr 4 b_1 0, SV.bool (pHas s (List.getD ks (Int.toNat (↑i : Int)) (0 : Int))), SV.raw (u 7), SV.raw (u 8),
                       SV.raw (u 9), SV.raw (u 10), SV.raw (u 11), SV.vec 3 aok (List.length ks) capk,
                       SV.int IntKind.i64 (↑(List.length ks) : Int), SV.int IntKind.i64 (IntKind.wrap IntKind.i64 ((↑i : Int) + (1 : Int))), SV.bool true,
                       SV.eptr 3 (Addr.blkD aok) (Addr.offD aok) 1 (Int.toNat (↑i : Int)) 0,
                       SV.int IntKind.i64 (List.getD ks (Int.toNat (↑i : Int)) (0 : Int)),
                       SV.tuple
                        [SV.agg
                         [SV.int IntKind.i64 (pGet s (List.getD ks (Int.toNat (↑i : Int)) (0 : Int))).1,
                          SV.int IntKind.i64 (pGet s (List.getD ks (Int.toNat (↑i : Int)) (0 : Int))).2,
                          SV.str (pGet s (List.getD ks (Int.toNat (↑i : Int)) (0 : Int))).3, SV.bool (pGet s (List.getD ks (Int.toNat (↑i : Int)) (0 : Int))).4,
                          SV.int IntKind.i64 (pGet s (List.getD ks (Int.toNat (↑i : Int)) (0 : Int))).5,
                          SV.str (pGet s (List.getD ks (Int.toNat (↑i : Int)) (0 : Int))).6],
                         SV.bool (pHas s (List.getD ks (Int.toNat (↑i : Int)) (0 : Int)))],
                       SV.ptr 0 b 0, SV.int IntKind.i64 (List.getD ks (Int.toNat (↑i : Int)) (0 : Int)),
                       SV.tuple
                        [SV.agg
                         [SV.int IntKind.i64 (pGet s (List.getD ks (Int.toNat (↑i : Int)) (0 : Int))).1,
                          SV.int IntKind.i64 (pGet s (List.getD ks (Int.toNat (↑i : Int)) (0 : Int))).2,
                          SV.str (pGet s (List.getD ks (Int.toNat (↑i : Int)) (0 : Int))).3, SV.bool (pGet s (List.getD ks (Int.toNat (↑i : Int)) (0 : Int))).4,
                          SV.int IntKind.i64 (pGet s (List.getD ks (Int.toNat (↑i : Int)) (0 : Int))).5,
                          SV.str (pGet s (List.getD ks (Int.toNat (↑i : Int)) (0 : Int))).6],
                         SV.bool (pHas s (List.getD ks (Int.toNat (↑i : Int)) (0 : Int)))],
                       SV.agg
                        [SV.int IntKind.i64 (pGet s (List.getD ks (Int.toNat (↑i : Int)) (0 : Int))).1,
                         SV.int IntKind.i64 (pGet s (List.getD ks (Int.toNat (↑i : Int)) (0 : Int))).2, SV.str (pGet s (List.getD ks (Int.toNat (↑i : Int)) (0 : Int))).3,
                         SV.bool (pGet s (List.getD ks (Int.toNat (↑i : Int)) (0 : Int))).4, SV.int IntKind.i64 (pGet s (List.getD ks (Int.toNat (↑i : Int)) (0 : Int))).5,
                         SV.str (pGet s (List.getD ks (Int.toNat (↑i : Int)) (0 : Int))).6],
                       SV.bool (pHas s (List.getD ks (Int.toNat (↑i : Int)) (0 : Int))), SV.bool (pHas s (List.getD ks (Int.toNat (↑i : Int)) (0 : Int))), SV.bool true,
                       SV.raw fv,
                       SV.agg
                        [SV.int IntKind.i64 (pGet s (List.getD ks (Int.toNat (↑i : Int)) (0 : Int))).1,
                         SV.int IntKind.i64 (pGet s (List.getD ks (Int.toNat (↑i : Int)) (0 : Int))).2, SV.str (pGet s (List.getD ks (Int.toNat (↑i : Int)) (0 : Int))).3,
                         SV.bool (pGet s (List.getD ks (Int.toNat (↑i : Int)) (0 : Int))).4, SV.int IntKind.i64 (pGet s (List.getD ks (Int.toNat (↑i : Int)) (0 : Int))).5,
                         SV.str (pGet s (List.getD ks (Int.toNat (↑i : Int)) (0 : Int))).6],
                       SV.bool true, SV.bool false, SV.bool false, SV.int IntKind.i64 (IntKind.wrap IntKind.i64 ((↑i : Int) + (1 : Int)))]
                      [pkA b ptE s, Ent.mk (Loc.blk bt) (SObj.cells [SV.ptr 0 b 0] (38 : TypeId)), pk 0 (R (i_1 + 1)),
                       Ent.mk (Loc.sl aok capk) (SObj.vecL (3 : TypeId) 1 encI1 ks (0 : Int)),
                       Ent.mk (Loc.blk b_1)
                        (SObj.cells
                         [SV.int IntKind.i64 (pGet s (List.getD ks (Int.toNat (↑i : Int)) (0 : Int))).1,
                          SV.int IntKind.i64 (pGet s (List.getD ks (Int.toNat (↑i : Int)) (0 : Int))).2, SV.str (pGet s (List.getD ks (Int.toNat (↑i : Int)) (0 : Int))).3,
                          SV.bool (pGet s (List.getD ks (Int.toNat (↑i : Int)) (0 : Int))).4, SV.int IntKind.i64 (pGet s (List.getD ks (Int.toNat (↑i : Int)) (0 : Int))).5,
                          SV.str (pGet s (List.getD ks (Int.toNat (↑i : Int)) (0 : Int))).6]
                         45)]) ∧
                     ∀ (s' : PT) (R' : List Ent),
                      Stop s' R' →
                       X Code.ret
                        (Sy.mk
                         [SV.raw fv, SV.ptr 1 bt 0, SV.raw (u 2), SV.raw (u 3),
                          SV.int IntKind.i64 (List.getD ks (Int.toNat (↑i : Int)) (0 : Int)), SV.ptr 4 b_1 0,
                          SV.bool (pHas s (List.getD ks (Int.toNat (↑i : Int)) (0 : Int))), SV.raw (u 7), SV.raw (u 8), SV.raw (u 9),
                          SV.raw (u 10), SV.raw (u 11), SV.vec 3 aok (List.length ks) capk, SV.int IntKind.i64 (↑(List.length ks) : Int),
                          SV.int IntKind.i64 (↑i : Int), SV.bool true, SV.eptr 3 (Addr.blkD aok) (Addr.offD aok) 1 (Int.toNat (↑i : Int)) 0,
                          SV.int IntKind.i64 (List.getD ks (Int.toNat (↑i : Int)) (0 : Int)),
                          SV.tuple
                           [SV.agg
                            [SV.int IntKind.i64 (pGet s (List.getD ks (Int.toNat (↑i : Int)) (0 : Int))).1,
                             SV.int IntKind.i64 (pGet s (List.getD ks (Int.toNat (↑i : Int)) (0 : Int))).2,
                             SV.str (pGet s (List.getD ks (Int.toNat (↑i : Int)) (0 : Int))).3, SV.bool (pGet s (List.getD ks (Int.toNat (↑i : Int)) (0 : Int))).4,
                             SV.int IntKind.i64 (pGet s (List.getD ks (Int.toNat (↑i : Int)) (0 : Int))).5,
                             SV.str (pGet s (List.getD ks (Int.toNat (↑i : Int)) (0 : Int))).6],
                            SV.bool (pHas s (List.getD ks (Int.toNat (↑i : Int)) (0 : Int)))],
                          SV.ptr 0 b 0, SV.int IntKind.i64 (List.getD ks (Int.toNat (↑i : Int)) (0 : Int)),
                          SV.tuple
                           [SV.agg
                            [SV.int IntKind.i64 (pGet s (List.getD ks (Int.toNat (↑i : Int)) (0 : Int))).1,
                             SV.int IntKind.i64 (pGet s (List.getD ks (Int.toNat (↑i : Int)) (0 : Int))).2,
                             SV.str (pGet s (List.getD ks (Int.toNat (↑i : Int)) (0 : Int))).3, SV.bool (pGet s (List.getD ks (Int.toNat (↑i : Int)) (0 : Int))).4,
                             SV.int IntKind.i64 (pGet s (List.getD ks (Int.toNat (↑i : Int)) (0 : Int))).5,
                             SV.str (pGet s (List.getD ks (Int.toNat (↑i : Int)) (0 : Int))).6],
                            SV.bool (pHas s (List.getD ks (Int.toNat (↑i : Int)) (0 : Int)))],
                          SV.agg
                           [SV.int IntKind.i64 (pGet s (List.getD ks (Int.toNat (↑i : Int)) (0 : Int))).1,
                            SV.int IntKind.i64 (pGet s (List.getD ks (Int.toNat (↑i : Int)) (0 : Int))).2,
                            SV.str (pGet s (List.getD ks (Int.toNat (↑i : Int)) (0 : Int))).3, SV.bool (pGet s (List.getD ks (Int.toNat (↑i : Int)) (0 : Int))).4,
                            SV.int IntKind.i64 (pGet s (List.getD ks (Int.toNat (↑i : Int)) (0 : Int))).5,
                            SV.str (pGet s (List.getD ks (Int.toNat (↑i : Int)) (0 : Int))).6],
                          SV.bool (pHas s (List.getD ks (Int.toNat (↑i : Int)) (0 : Int))), SV.bool (pHas s (List.getD ks (Int.toNat (↑i : Int)) (0 : Int))), SV.bool true,
                          SV.raw fv,
                          SV.agg
                           [SV.int IntKind.i64 (pGet s (List.getD ks (Int.toNat (↑i : Int)) (0 : Int))).1,
                            SV.int IntKind.i64 (pGet s (List.getD ks (Int.toNat (↑i : Int)) (0 : Int))).2,
                            SV.str (pGet s (List.getD ks (Int.toNat (↑i : Int)) (0 : Int))).3, SV.bool (pGet s (List.getD ks (Int.toNat (↑i : Int)) (0 : Int))).4,
                            SV.int IntKind.i64 (pGet s (List.getD ks (Int.toNat (↑i : Int)) (0 : Int))).5,
                            SV.str (pGet s (List.getD ks (Int.toNat (↑i : Int)) (0 : Int))).6],
                          SV.bool false, SV.bool true, SV.bool true, SV.raw (u 31)]
                         [pkA b ptE s', Ent.mk (Loc.blk bt) (SObj.cells [SV.ptr 0 b 0] (38 : TypeId)), pk 0 R',
                          Ent.mk (Loc.sl aok capk) (SObj.vecL (3 : TypeId) 1 encI1 ks (0 : Int)),
                          Ent.mk (Loc.blk b_1)
                           (SObj.cells
                            [SV.int IntKind.i64 (pGet s (List.getD ks (Int.toNat (↑i : Int)) (0 : Int))).1,
                             SV.int IntKind.i64 (pGet s (List.getD ks (Int.toNat (↑i : Int)) (0 : Int))).2,
                             SV.str (pGet s (List.getD ks (Int.toNat (↑i : Int)) (0 : Int))).3, SV.bool (pGet s (List.getD ks (Int.toNat (↑i : Int)) (0 : Int))).4,
                             SV.int IntKind.i64 (pGet s (List.getD ks (Int.toNat (↑i : Int)) (0 : Int))).5,
                             SV.str (pGet s (List.getD ks (Int.toNat (↑i : Int)) (0 : Int))).6]
                            45)])
           | false =>
            K [Frm.loop J, Frm.blk 0]
             (Sy.mk
              [SV.raw fv, SV.ptr 1 bt 0, SV.raw (u 2), SV.raw (u 3), SV.int IntKind.i64 (List.getD ks (Int.toNat (↑i : Int)) (0 : Int)),
               SV.ptr 4 b_1 0, SV.bool (pHas s (List.getD ks (Int.toNat (↑i : Int)) (0 : Int))), SV.raw (u 7), SV.raw (u 8), SV.raw (u 9),
               SV.raw (u 10), SV.raw (u 11), SV.vec 3 aok (List.length ks) capk, SV.int IntKind.i64 (↑(List.length ks) : Int),
               SV.int IntKind.i64 (IntKind.wrap IntKind.i64 ((↑i : Int) + (1 : Int))), SV.bool true,
               SV.eptr 3 (Addr.blkD aok) (Addr.offD aok) 1 (Int.toNat (↑i : Int)) 0, SV.int IntKind.i64 (List.getD ks (Int.toNat (↑i : Int)) (0 : Int)),
               SV.tuple
                [SV.agg
                 [SV.int IntKind.i64 (pGet s (List.getD ks (Int.toNat (↑i : Int)) (0 : Int))).1, SV.int IntKind.i64 (pGet s (List.getD ks (Int.toNat (↑i : Int)) (0 : Int))).2,
                  SV.str (pGet s (List.getD ks (Int.toNat (↑i : Int)) (0 : Int))).3, SV.bool (pGet s (List.getD ks (Int.toNat (↑i : Int)) (0 : Int))).4,
                  SV.int IntKind.i64 (pGet s (List.getD ks (Int.toNat (↑i : Int)) (0 : Int))).5, SV.str (pGet s (List.getD ks (Int.toNat (↑i : Int)) (0 : Int))).6],
                 SV.bool (pHas s (List.getD ks (Int.toNat (↑i : Int)) (0 : Int)))],
               SV.ptr 0 b 0, SV.int IntKind.i64 (List.getD ks (Int.toNat (↑i : Int)) (0 : Int)),
               SV.tuple
                [SV.agg
                 [SV.int IntKind.i64 (pGet s (List.getD ks (Int.toNat (↑i : Int)) (0 : Int))).1, SV.int IntKind.i64 (pGet s (List.getD ks (Int.toNat (↑i : Int)) (0 : Int))).2,
                  SV.str (pGet s (List.getD ks (Int.toNat (↑i : Int)) (0 : Int))).3, SV.bool (pGet s (List.getD ks (Int.toNat (↑i : Int)) (0 : Int))).4,
                  SV.int IntKind.i64 (pGet s (List.getD ks (Int.toNat (↑i : Int)) (0 : Int))).5, SV.str (pGet s (List.getD ks (Int.toNat (↑i : Int)) (0 : Int))).6],
                 SV.bool (pHas s (List.getD ks (Int.toNat (↑i : Int)) (0 : Int)))],
               SV.agg
                [SV.int IntKind.i64 (pGet s (List.getD ks (Int.toNat (↑i : Int)) (0 : Int))).1, SV.int IntKind.i64 (pGet s (List.getD ks (Int.toNat (↑i : Int)) (0 : Int))).2,
                 SV.str (pGet s (List.getD ks (Int.toNat (↑i : Int)) (0 : Int))).3, SV.bool (pGet s (List.getD ks (Int.toNat (↑i : Int)) (0 : Int))).4,
                 SV.int IntKind.i64 (pGet s (List.getD ks (Int.toNat (↑i : Int)) (0 : Int))).5, SV.str (pGet s (List.getD ks (Int.toNat (↑i : Int)) (0 : Int))).6],
               SV.bool (pHas s (List.getD ks (Int.toNat (↑i : Int)) (0 : Int))), SV.bool (pHas s (List.getD ks (Int.toNat (↑i : Int)) (0 : Int))), SV.bool false,
               SV.raw (Value.tuple #[]), SV.raw (Value.tuple #[]), SV.raw (Value.tuple #[]), SV.raw (Value.tuple #[]), SV.bool false,
               SV.int IntKind.i64 (IntKind.wrap IntKind.i64 ((↑i : Int) + (1 : Int)))]
              [pkA b ptE s, Ent.mk (Loc.blk bt) (SObj.cells [SV.ptr 0 b 0] (38 : TypeId)), pk 0 (R i),
               Ent.mk (Loc.sl aok capk) (SObj.vecL (3 : TypeId) 1 encI1 ks (0 : Int)),
               Ent.mk (Loc.blk b_1)
                (SObj.cells
                 [SV.int IntKind.i64 (pGet s (List.getD ks (Int.toNat (↑i : Int)) (0 : Int))).1, SV.int IntKind.i64 (pGet s (List.getD ks (Int.toNat (↑i : Int)) (0 : Int))).2,
                  SV.str (pGet s (List.getD ks (Int.toNat (↑i : Int)) (0 : Int))).3, SV.bool (pGet s (List.getD ks (Int.toNat (↑i : Int)) (0 : Int))).4,
                  SV.int IntKind.i64 (pGet s (List.getD ks (Int.toNat (↑i : Int)) (0 : Int))).5, SV.str (pGet s (List.getD ks (Int.toNat (↑i : Int)) (0 : Int))).6]
                 45)])
| false =>
 E
  (Sy.mk
   [SV.raw fv, SV.ptr 1 bt 0, SV.raw (u 2), SV.raw (u 3), SV.raw (u 4), SV.raw (u 5), SV.raw (u 6), SV.raw (u 7),
    SV.raw (u 8), SV.raw (u 9), SV.raw (u 10), SV.raw (u 11), SV.vec 3 aok (List.length ks) capk, SV.int IntKind.i64 (↑(List.length ks) : Int),
    SV.int IntKind.i64 (↑i : Int), SV.bool false, SV.raw (u 16), SV.raw (u 17), SV.raw (u 18), SV.raw (u 19), SV.raw (u 20), SV.raw (u 21),
    SV.raw (u 22), SV.raw (u 23), SV.raw (u 24), SV.raw (u 25), SV.raw (u 26), SV.raw (u 27), SV.raw (u 28), SV.raw (u 29),
    SV.raw (u 30), SV.raw (u 31)]
   [pkA b ptE s, Ent.mk (Loc.blk bt) (SObj.cells [SV.ptr 0 b 0] (38 : TypeId)), pk 0 (R i), Ent.mk (Loc.sl aok capk) (SObj.vecL (3 : TypeId) 1 encI1 ks (0 : Int))])) := by kernel_rfl
end Go.Proofs.Ytihajdkipkfiiaa
