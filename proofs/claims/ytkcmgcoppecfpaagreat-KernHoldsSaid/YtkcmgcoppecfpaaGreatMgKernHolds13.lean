import Derived.Test.YtkcmgcoppecfpaaGreatMgKernHolds11
import Derived.Test.YtkcmgcoppecfpaaGreatMgKernHolds6
/- YtkcmgcoppecfpaaGreatKh0Run -/
namespace Go.Proofs.YtkcmgcoppecfpaaGreat
set_option linter.unusedVariables false
open Go Go.RowKit
set_option maxHeartbeats 0
set_option maxRecDepth 100000
set_option linter.unusedVariables false
set_option allowUnsafeReducibility true
set_option maxRecDepth 100000

theorem kh_start (K : List Frm → Sy → Prop) (N : List Ent → SV → Prop) (ao : Option Addr) (cap : Nat) (bs : List Int) : (run Tryz.prog khT false [100008] K (retP Tryz.prog Tryz.f3.results.toList N) 4000 [.code (bodyOf Tryz.f3)] ⟨padTo 164 [.vec 0 ao bs.length cap], [⟨.sl ao cap, .roL 1 encU8 bs 0⟩]⟩) = (
true = true ∧
 match decide ((↑(List.length bs) : Int) > (120 : Int)) with
 | true => N [Ent.mk (Loc.sl ao cap) (SObj.roL 1 encU8 bs (0 : Int))] (SV.bool true)
 | false =>
  true = true ∧
   true = true ∧
    ∀ (b bm bp : Nat),
     true = true ∧
      ∀ (b_1 bg bo : Nat),
       true = true ∧
        ∀ (v : Option Addr),
         true = true ∧
          ∀ (v_1 : Option Addr),
           (true = true ∧ true = true) ∧
            true = true ∧
             ∀ (b_2 : Nat),
              (true = true ∧ true = true) ∧
               ∀ (b_3 : Nat),
                (b_3 = b_3 ∧ true = true ∧ 3 = 3 ∧ 3 ≤ 3) ∧
                 (true = true ∧
                  b_2 = b_2 ∧
                   ((0 : Int) ≤ (0 : Int) ∧ (0 : Int) < (↑3 : Int)) ∧
                    b_3 = b_3 ∧
                     true = true ∧
                      b_1 = b_1 ∧
                       ∃ (h : Grp = Grp),
                        AdtIs (fun (s : Grp) (b : Nat) ↦ packs (grpE s b)) grpE ∧
                         ∀ (nb : Nat),
                          (true = true ∧
                           b_2 = b_2 ∧
                            ((0 : Int) ≤ (1 : Int) ∧ (1 : Int) < (↑3 : Int)) ∧
                             b_3 = b_3 ∧
                              true = true ∧
                               b_1 = b_1 ∧
                                ∃ (h : Grp = Grp),
                                 AdtIs (fun (s : Grp) (b : Nat) ↦ packs (grpE s b)) grpE ∧
                                  ∀ (nb_1 : Nat),
                                   (true = true ∧
                                    b_2 = b_2 ∧
                                     ((0 : Int) ≤ (2 : Int) ∧ (2 : Int) < (↑3 : Int)) ∧
                                      b_3 = b_3 ∧
                                       true = true ∧
                                        b_1 = b_1 ∧
                                         ∃ (h : Grp = Grp),
                                          AdtIs (fun (s : Grp) (b : Nat) ↦ packs (grpE s b)) grpE ∧
                                           ∀ (nb_2 : Nat),
                                            K
                                             (frm [] (bodyOf Tryz.f3)
                                              [1, 1, 1, 1, 1, 1, 1, 0, 1,
                                               0]
                                              [])
                                             (Sy.mk (SV.vec 0 ao (List.length bs) cap :: (SV.raw (Value.tuple #[]) :: (SV.bool false :: (SV.ptr 3 b_2 0 :: (SV.ptr 4 b_3 0 :: (SV.int IntKind.i64 (3 : Int) :: (SV.int IntKind.i64 (1 : Int) :: (SV.int IntKind.i64 (0 : Int) :: (rawE (SV.bool true :: (SV.bool false :: (SV.vec 0 ao (List.length bs) cap :: (SV.int IntKind.i64 (↑(List.length bs) : Int) :: (SV.bool false :: (SV.ptr 3 b_2 0 :: (SV.agg [SV.str (ByteArray.mk #[(97 : UInt8)]), SV.str (ByteArray.mk #[(98 : UInt8)]), SV.str (ByteArray.mk #[(99 : UInt8)])] :: (SV.int IntKind.i64 (3 : Int) :: (SV.bool false :: (SV.int IntKind.i64 (2 : Int) :: (SV.int IntKind.i64 (3 : Int) :: (SV.ptr 3 b_2 0 :: (SV.ptr 2 b_1 0 :: (SV.int IntKind.i64 (2 : Int) :: (SV.ptr 4 b_3 2 :: (SV.str (ByteArray.mk #[(99 : UInt8)]) :: (SV.int IntKind.i64 (0 : Int) :: (SV.bool false :: (rawE [] 128))))))))))))))))))) 10)))))))))
                                              [Ent.mk (Loc.sl ao cap) (SObj.roL 1 encU8 bs (0 : Int)),
                                               pkA b ptE
                                                (PT.mk bm
                                                 [(bp,
                                                  PR.mk (1 : Int) (0 : Int) (ByteArray.mk #[]) false (0 : Int) (ByteArray.mk #[]) false
                                                   false)]
                                                 (30 : Int) (1 : Int)),
                                               pkA b_1 grpE
                                                (Grp.mk bg bo (@none Addr) 0
                                                 [(Key.s (ByteArray.mk #[(97 : UInt8)]), nb, []),
                                                  (Key.s (ByteArray.mk #[(98 : UInt8)]), nb_1, []),
                                                  (Key.s (ByteArray.mk #[(99 : UInt8)]), nb_2, [])]
                                                 [] []),
                                               Ent.mk (Loc.blk b_2)
                                                (SObj.cells
                                                 [SV.ptr 1 b 0, SV.ptr 2 b_1 0, SV.raw (Value.pointer v),
                                                  SV.raw (Value.pointer v_1), SV.int IntKind.i64 (0 : Int), SV.int IntKind.i64 (0 : Int)]
                                                 96),
                                               Ent.mk (Loc.blk b_3)
                                                (SObj.cells
                                                 [SV.str (ByteArray.mk #[(97 : UInt8)]), SV.str (ByteArray.mk #[(98 : UInt8)]),
                                                  SV.str (ByteArray.mk #[(99 : UInt8)])]
                                                 26)])) ∧
                                    ((0 : Int) ≤ (2 : Int) ∧ (2 : Int) < (↑3 : Int)) ∧
                                     (true = true ∧
                                      b_2 = b_2 ∧
                                       b_3 = b_3 ∧
                                        true = true ∧
                                         b_1 = b_1 ∧
                                          ∃ (h : Grp = Grp),
                                           AdtIs (fun (s : Grp) (b : Nat) ↦ packs (grpE s b)) grpE ∧
                                            ∀ (nb_2 : Nat),
                                             K
                                              (frm [] (bodyOf Tryz.f3)
                                               [1, 1, 1, 1, 1, 1, 1, 0, 1,
                                                0]
                                               [])
                                              (Sy.mk (SV.vec 0 ao (List.length bs) cap :: (SV.raw (Value.tuple #[]) :: (SV.bool false :: (SV.ptr 3 b_2 0 :: (SV.ptr 4 b_3 0 :: (SV.int IntKind.i64 (3 : Int) :: (SV.int IntKind.i64 (1 : Int) :: (SV.int IntKind.i64 (0 : Int) :: (rawE (SV.bool true :: (SV.bool false :: (SV.vec 0 ao (List.length bs) cap :: (SV.int IntKind.i64 (↑(List.length bs) : Int) :: (SV.bool false :: (SV.ptr 3 b_2 0 :: (SV.agg [SV.str (ByteArray.mk #[(97 : UInt8)]), SV.str (ByteArray.mk #[(98 : UInt8)]), SV.str (ByteArray.mk #[(99 : UInt8)])] :: (SV.int IntKind.i64 (3 : Int) :: (SV.bool false :: (SV.int IntKind.i64 (2 : Int) :: (SV.int IntKind.i64 (3 : Int) :: (SV.ptr 3 b_2 0 :: (SV.ptr 2 b_1 0 :: (SV.int IntKind.i64 (2 : Int) :: (SV.ptr 4 b_3 2 :: (SV.str (ByteArray.mk #[(99 : UInt8)]) :: (SV.int IntKind.i64 (0 : Int) :: (SV.bool false :: (rawE [] 128))))))))))))))))))) 10)))))))))
                                               [Ent.mk (Loc.sl ao cap) (SObj.roL 1 encU8 bs (0 : Int)),
                                                pkA b ptE
                                                 (PT.mk bm
                                                  [(bp,
                                                   PR.mk (1 : Int) (0 : Int) (ByteArray.mk #[]) false (0 : Int) (ByteArray.mk #[]) false
                                                    false)]
                                                  (30 : Int) (1 : Int)),
                                                pkA b_1 grpE
                                                 (Grp.mk bg bo (@none Addr) 0
                                                  [(Key.s (ByteArray.mk #[(97 : UInt8)]), nb, []),
                                                   (Key.s (ByteArray.mk #[(98 : UInt8)]), nb_1, []),
                                                   (Key.s (ByteArray.mk #[(99 : UInt8)]), nb_2, [])]
                                                  [] []),
                                                Ent.mk (Loc.blk b_2)
                                                 (SObj.cells
                                                  [SV.ptr 1 b 0, SV.ptr 2 b_1 0, SV.raw (Value.pointer v),
                                                   SV.raw (Value.pointer v_1), SV.int IntKind.i64 (0 : Int), SV.int IntKind.i64 (0 : Int)]
                                                  96),
                                                Ent.mk (Loc.blk b_3)
                                                 (SObj.cells
                                                  [SV.str (ByteArray.mk #[(97 : UInt8)]), SV.str (ByteArray.mk #[(98 : UInt8)]),
                                                   SV.str (ByteArray.mk #[(99 : UInt8)])]
                                                  26)])) ∧
                                      b_3 = b_3 ∧
                                       true = true ∧
                                        b_2 = b_2 ∧
                                         true = true ∧
                                          b_1 = b_1 ∧
                                           ∃ (h : Grp = Grp),
                                            AdtIs (fun (s : Grp) (b : Nat) ↦ packs (grpE s b)) grpE ∧
                                             ∀ (nb_2 : Nat),
                                              K
                                               (frm [] (bodyOf Tryz.f3)
                                                [1, 1, 1, 1, 1, 1, 1, 0, 1,
                                                 0]
                                                [])
                                               (Sy.mk (SV.vec 0 ao (List.length bs) cap :: (SV.raw (Value.tuple #[]) :: (SV.bool false :: (SV.ptr 3 b_2 0 :: (SV.ptr 4 b_3 0 :: (SV.int IntKind.i64 (3 : Int) :: (SV.int IntKind.i64 (1 : Int) :: (SV.int IntKind.i64 (0 : Int) :: (rawE (SV.bool true :: (SV.bool false :: (SV.vec 0 ao (List.length bs) cap :: (SV.int IntKind.i64 (↑(List.length bs) : Int) :: (SV.bool false :: (SV.ptr 3 b_2 0 :: (SV.agg [SV.str (ByteArray.mk #[(97 : UInt8)]), SV.str (ByteArray.mk #[(98 : UInt8)]), SV.str (ByteArray.mk #[(99 : UInt8)])] :: (SV.int IntKind.i64 (3 : Int) :: (SV.bool false :: (SV.int IntKind.i64 (2 : Int) :: (SV.int IntKind.i64 (3 : Int) :: (SV.ptr 3 b_2 0 :: (SV.ptr 2 b_1 0 :: (SV.int IntKind.i64 (2 : Int) :: (SV.ptr 4 b_3 2 :: (SV.str (ByteArray.mk #[(99 : UInt8)]) :: (SV.int IntKind.i64 (0 : Int) :: (SV.bool false :: (rawE [] 128))))))))))))))))))) 10)))))))))
                                                [Ent.mk (Loc.sl ao cap) (SObj.roL 1 encU8 bs (0 : Int)),
                                                 pkA b ptE
                                                  (PT.mk bm
                                                   [(bp,
                                                    PR.mk (1 : Int) (0 : Int) (ByteArray.mk #[]) false (0 : Int) (ByteArray.mk #[]) false
                                                     false)]
                                                   (30 : Int) (1 : Int)),
                                                 pkA b_1 grpE
                                                  (Grp.mk bg bo (@none Addr) 0
                                                   [(Key.s (ByteArray.mk #[(97 : UInt8)]), nb, []),
                                                    (Key.s (ByteArray.mk #[(98 : UInt8)]), nb_1, []),
                                                    (Key.s (ByteArray.mk #[(99 : UInt8)]), nb_2, [])]
                                                   [] []),
                                                 Ent.mk (Loc.blk b_2)
                                                  (SObj.cells
                                                   [SV.ptr 1 b 0, SV.ptr 2 b_1 0, SV.raw (Value.pointer v),
                                                    SV.raw (Value.pointer v_1), SV.int IntKind.i64 (0 : Int), SV.int IntKind.i64 (0 : Int)]
                                                   96),
                                                 Ent.mk (Loc.blk b_3)
                                                  (SObj.cells
                                                   [SV.str (ByteArray.mk #[(97 : UInt8)]), SV.str (ByteArray.mk #[(98 : UInt8)]),
                                                    SV.str (ByteArray.mk #[(99 : UInt8)])]
                                                   26)])) ∧
                           ((0 : Int) ≤ (1 : Int) ∧ (1 : Int) < (↑3 : Int)) ∧
                            (true = true ∧
                             b_2 = b_2 ∧
                              b_3 = b_3 ∧
                               true = true ∧
                                b_1 = b_1 ∧
                                 ∃ (h : Grp = Grp),
                                  AdtIs (fun (s : Grp) (b : Nat) ↦ packs (grpE s b)) grpE ∧
                                   ∀ (nb_1 : Nat),
                                    (true = true ∧
                                     b_2 = b_2 ∧
                                      ((0 : Int) ≤ (2 : Int) ∧ (2 : Int) < (↑3 : Int)) ∧
                                       b_3 = b_3 ∧
                                        true = true ∧
                                         b_1 = b_1 ∧
                                          ∃ (h : Grp = Grp),
                                           AdtIs (fun (s : Grp) (b : Nat) ↦ packs (grpE s b)) grpE ∧
                                            ∀ (nb_2 : Nat),
                                             K
                                              (frm [] (bodyOf Tryz.f3)
                                               [1, 1, 1, 1, 1, 1, 1, 0, 1,
                                                0]
                                               [])
                                              (Sy.mk (SV.vec 0 ao (List.length bs) cap :: (SV.raw (Value.tuple #[]) :: (SV.bool false :: (SV.ptr 3 b_2 0 :: (SV.ptr 4 b_3 0 :: (SV.int IntKind.i64 (3 : Int) :: (SV.int IntKind.i64 (1 : Int) :: (SV.int IntKind.i64 (0 : Int) :: (rawE (SV.bool true :: (SV.bool false :: (SV.vec 0 ao (List.length bs) cap :: (SV.int IntKind.i64 (↑(List.length bs) : Int) :: (SV.bool false :: (SV.ptr 3 b_2 0 :: (SV.agg [SV.str (ByteArray.mk #[(97 : UInt8)]), SV.str (ByteArray.mk #[(98 : UInt8)]), SV.str (ByteArray.mk #[(99 : UInt8)])] :: (SV.int IntKind.i64 (3 : Int) :: (SV.bool false :: (SV.int IntKind.i64 (2 : Int) :: (SV.int IntKind.i64 (3 : Int) :: (SV.ptr 3 b_2 0 :: (SV.ptr 2 b_1 0 :: (SV.int IntKind.i64 (2 : Int) :: (SV.ptr 4 b_3 2 :: (SV.str (ByteArray.mk #[(99 : UInt8)]) :: (SV.int IntKind.i64 (0 : Int) :: (SV.bool false :: (rawE [] 128))))))))))))))))))) 10)))))))))
                                               [Ent.mk (Loc.sl ao cap) (SObj.roL 1 encU8 bs (0 : Int)),
                                                pkA b ptE
                                                 (PT.mk bm
                                                  [(bp,
                                                   PR.mk (1 : Int) (0 : Int) (ByteArray.mk #[]) false (0 : Int) (ByteArray.mk #[]) false
                                                    false)]
                                                  (30 : Int) (1 : Int)),
                                                pkA b_1 grpE
                                                 (Grp.mk bg bo (@none Addr) 0
                                                  [(Key.s (ByteArray.mk #[(97 : UInt8)]), nb, []),
                                                   (Key.s (ByteArray.mk #[(98 : UInt8)]), nb_1, []),
                                                   (Key.s (ByteArray.mk #[(99 : UInt8)]), nb_2, [])]
                                                  [] []),
                                                Ent.mk (Loc.blk b_2)
                                                 (SObj.cells
                                                  [SV.ptr 1 b 0, SV.ptr 2 b_1 0, SV.raw (Value.pointer v),
                                                   SV.raw (Value.pointer v_1), SV.int IntKind.i64 (0 : Int), SV.int IntKind.i64 (0 : Int)]
                                                  96),
                                                Ent.mk (Loc.blk b_3)
                                                 (SObj.cells
                                                  [SV.str (ByteArray.mk #[(97 : UInt8)]), SV.str (ByteArray.mk #[(98 : UInt8)]),
                                                   SV.str (ByteArray.mk #[(99 : UInt8)])]
                                                  26)])) ∧
                                     ((0 : Int) ≤ (2 : Int) ∧ (2 : Int) < (↑3 : Int)) ∧
                                      (true = true ∧
                                       b_2 = b_2 ∧
                                        b_3 = b_3 ∧
                                         true = true ∧
                                          b_1 = b_1 ∧
                                           ∃ (h : Grp = Grp),
                                            AdtIs (fun (s : Grp) (b : Nat) ↦ packs (grpE s b)) grpE ∧
                                             ∀ (nb_2 : Nat),
                                              K
                                               (frm [] (bodyOf Tryz.f3)
                                                [1, 1, 1, 1, 1, 1, 1, 0,
                                                 1, 0]
                                                [])
                                               (Sy.mk (SV.vec 0 ao (List.length bs) cap :: (SV.raw (Value.tuple #[]) :: (SV.bool false :: (SV.ptr 3 b_2 0 :: (SV.ptr 4 b_3 0 :: (SV.int IntKind.i64 (3 : Int) :: (SV.int IntKind.i64 (1 : Int) :: (SV.int IntKind.i64 (0 : Int) :: (rawE (SV.bool true :: (SV.bool false :: (SV.vec 0 ao (List.length bs) cap :: (SV.int IntKind.i64 (↑(List.length bs) : Int) :: (SV.bool false :: (SV.ptr 3 b_2 0 :: (SV.agg [SV.str (ByteArray.mk #[(97 : UInt8)]), SV.str (ByteArray.mk #[(98 : UInt8)]), SV.str (ByteArray.mk #[(99 : UInt8)])] :: (SV.int IntKind.i64 (3 : Int) :: (SV.bool false :: (SV.int IntKind.i64 (2 : Int) :: (SV.int IntKind.i64 (3 : Int) :: (SV.ptr 3 b_2 0 :: (SV.ptr 2 b_1 0 :: (SV.int IntKind.i64 (2 : Int) :: (SV.ptr 4 b_3 2 :: (SV.str (ByteArray.mk #[(99 : UInt8)]) :: (SV.int IntKind.i64 (0 : Int) :: (SV.bool false :: (rawE [] 128))))))))))))))))))) 10)))))))))
                                                [Ent.mk (Loc.sl ao cap) (SObj.roL 1 encU8 bs (0 : Int)),
                                                 pkA b ptE
                                                  (PT.mk bm
                                                   [(bp,
                                                    PR.mk (1 : Int) (0 : Int) (ByteArray.mk #[]) false (0 : Int) (ByteArray.mk #[]) false
                                                     false)]
                                                   (30 : Int) (1 : Int)),
                                                 pkA b_1 grpE
                                                  (Grp.mk bg bo (@none Addr) 0
                                                   [(Key.s (ByteArray.mk #[(97 : UInt8)]), nb, []),
                                                    (Key.s (ByteArray.mk #[(98 : UInt8)]), nb_1, []),
                                                    (Key.s (ByteArray.mk #[(99 : UInt8)]), nb_2, [])]
                                                   [] []),
                                                 Ent.mk (Loc.blk b_2)
                                                  (SObj.cells
                                                   [SV.ptr 1 b 0, SV.ptr 2 b_1 0, SV.raw (Value.pointer v),
                                                    SV.raw (Value.pointer v_1), SV.int IntKind.i64 (0 : Int), SV.int IntKind.i64 (0 : Int)]
                                                   96),
                                                 Ent.mk (Loc.blk b_3)
                                                  (SObj.cells
                                                   [SV.str (ByteArray.mk #[(97 : UInt8)]), SV.str (ByteArray.mk #[(98 : UInt8)]),
                                                    SV.str (ByteArray.mk #[(99 : UInt8)])]
                                                   26)])) ∧
                                       b_3 = b_3 ∧
                                        true = true ∧
                                         b_2 = b_2 ∧
                                          true = true ∧
                                           b_1 = b_1 ∧
                                            ∃ (h : Grp = Grp),
                                             AdtIs (fun (s : Grp) (b : Nat) ↦ packs (grpE s b)) grpE ∧
                                              ∀ (nb_2 : Nat),
                                               K
                                                (frm [] (bodyOf Tryz.f3)
                                                 [1, 1, 1, 1, 1, 1, 1, 0,
                                                  1, 0]
                                                 [])
                                                (Sy.mk (SV.vec 0 ao (List.length bs) cap :: (SV.raw (Value.tuple #[]) :: (SV.bool false :: (SV.ptr 3 b_2 0 :: (SV.ptr 4 b_3 0 :: (SV.int IntKind.i64 (3 : Int) :: (SV.int IntKind.i64 (1 : Int) :: (SV.int IntKind.i64 (0 : Int) :: (rawE (SV.bool true :: (SV.bool false :: (SV.vec 0 ao (List.length bs) cap :: (SV.int IntKind.i64 (↑(List.length bs) : Int) :: (SV.bool false :: (SV.ptr 3 b_2 0 :: (SV.agg [SV.str (ByteArray.mk #[(97 : UInt8)]), SV.str (ByteArray.mk #[(98 : UInt8)]), SV.str (ByteArray.mk #[(99 : UInt8)])] :: (SV.int IntKind.i64 (3 : Int) :: (SV.bool false :: (SV.int IntKind.i64 (2 : Int) :: (SV.int IntKind.i64 (3 : Int) :: (SV.ptr 3 b_2 0 :: (SV.ptr 2 b_1 0 :: (SV.int IntKind.i64 (2 : Int) :: (SV.ptr 4 b_3 2 :: (SV.str (ByteArray.mk #[(99 : UInt8)]) :: (SV.int IntKind.i64 (0 : Int) :: (SV.bool false :: (rawE [] 128))))))))))))))))))) 10)))))))))
                                                 [Ent.mk (Loc.sl ao cap) (SObj.roL 1 encU8 bs (0 : Int)),
                                                  pkA b ptE
                                                   (PT.mk bm
                                                    [(bp,
                                                     PR.mk (1 : Int) (0 : Int) (ByteArray.mk #[]) false (0 : Int) (ByteArray.mk #[]) false
                                                      false)]
                                                    (30 : Int) (1 : Int)),
                                                  pkA b_1 grpE
                                                   (Grp.mk bg bo (@none Addr) 0
                                                    [(Key.s (ByteArray.mk #[(97 : UInt8)]), nb, []),
                                                     (Key.s (ByteArray.mk #[(98 : UInt8)]), nb_1, []),
                                                     (Key.s (ByteArray.mk #[(99 : UInt8)]), nb_2, [])]
                                                    [] []),
                                                  Ent.mk (Loc.blk b_2)
                                                   (SObj.cells
                                                    [SV.ptr 1 b 0, SV.ptr 2 b_1 0, SV.raw (Value.pointer v),
                                                     SV.raw (Value.pointer v_1), SV.int IntKind.i64 (0 : Int), SV.int IntKind.i64 (0 : Int)]
                                                    96),
                                                  Ent.mk (Loc.blk b_3)
                                                   (SObj.cells
                                                    [SV.str (ByteArray.mk #[(97 : UInt8)]), SV.str (ByteArray.mk #[(98 : UInt8)]),
                                                     SV.str (ByteArray.mk #[(99 : UInt8)])]
                                                    26)])) ∧
                             b_3 = b_3 ∧
                              true = true ∧
                               b_2 = b_2 ∧
                                true = true ∧
                                 b_1 = b_1 ∧
                                  ∃ (h : Grp = Grp),
                                   AdtIs (fun (s : Grp) (b : Nat) ↦ packs (grpE s b)) grpE ∧
                                    ∀ (nb_1 : Nat),
                                     (true = true ∧
                                      b_2 = b_2 ∧
                                       ((0 : Int) ≤ (2 : Int) ∧ (2 : Int) < (↑3 : Int)) ∧
                                        b_3 = b_3 ∧
                                         true = true ∧
                                          b_1 = b_1 ∧
                                           ∃ (h : Grp = Grp),
                                            AdtIs (fun (s : Grp) (b : Nat) ↦ packs (grpE s b)) grpE ∧
                                             ∀ (nb_2 : Nat),
                                              K
                                               (frm [] (bodyOf Tryz.f3)
                                                [1, 1, 1, 1, 1, 1, 1, 0, 1,
                                                 0]
                                                [])
                                               (Sy.mk (SV.vec 0 ao (List.length bs) cap :: (SV.raw (Value.tuple #[]) :: (SV.bool false :: (SV.ptr 3 b_2 0 :: (SV.ptr 4 b_3 0 :: (SV.int IntKind.i64 (3 : Int) :: (SV.int IntKind.i64 (1 : Int) :: (SV.int IntKind.i64 (0 : Int) :: (rawE (SV.bool true :: (SV.bool false :: (SV.vec 0 ao (List.length bs) cap :: (SV.int IntKind.i64 (↑(List.length bs) : Int) :: (SV.bool false :: (SV.ptr 3 b_2 0 :: (SV.agg [SV.str (ByteArray.mk #[(97 : UInt8)]), SV.str (ByteArray.mk #[(98 : UInt8)]), SV.str (ByteArray.mk #[(99 : UInt8)])] :: (SV.int IntKind.i64 (3 : Int) :: (SV.bool false :: (SV.int IntKind.i64 (2 : Int) :: (SV.int IntKind.i64 (3 : Int) :: (SV.ptr 3 b_2 0 :: (SV.ptr 2 b_1 0 :: (SV.int IntKind.i64 (2 : Int) :: (SV.ptr 4 b_3 2 :: (SV.str (ByteArray.mk #[(99 : UInt8)]) :: (SV.int IntKind.i64 (0 : Int) :: (SV.bool false :: (rawE [] 128))))))))))))))))))) 10)))))))))
                                                [Ent.mk (Loc.sl ao cap) (SObj.roL 1 encU8 bs (0 : Int)),
                                                 pkA b ptE
                                                  (PT.mk bm
                                                   [(bp,
                                                    PR.mk (1 : Int) (0 : Int) (ByteArray.mk #[]) false (0 : Int) (ByteArray.mk #[]) false
                                                     false)]
                                                   (30 : Int) (1 : Int)),
                                                 pkA b_1 grpE
                                                  (Grp.mk bg bo (@none Addr) 0
                                                   [(Key.s (ByteArray.mk #[(97 : UInt8)]), nb, []),
                                                    (Key.s (ByteArray.mk #[(98 : UInt8)]), nb_1, []),
                                                    (Key.s (ByteArray.mk #[(99 : UInt8)]), nb_2, [])]
                                                   [] []),
                                                 Ent.mk (Loc.blk b_2)
                                                  (SObj.cells
                                                   [SV.ptr 1 b 0, SV.ptr 2 b_1 0, SV.raw (Value.pointer v),
                                                    SV.raw (Value.pointer v_1), SV.int IntKind.i64 (0 : Int), SV.int IntKind.i64 (0 : Int)]
                                                   96),
                                                 Ent.mk (Loc.blk b_3)
                                                  (SObj.cells
                                                   [SV.str (ByteArray.mk #[(97 : UInt8)]), SV.str (ByteArray.mk #[(98 : UInt8)]),
                                                    SV.str (ByteArray.mk #[(99 : UInt8)])]
                                                   26)])) ∧
                                      ((0 : Int) ≤ (2 : Int) ∧ (2 : Int) < (↑3 : Int)) ∧
                                       (true = true ∧
                                        b_2 = b_2 ∧
                                         b_3 = b_3 ∧
                                          true = true ∧
                                           b_1 = b_1 ∧
                                            ∃ (h : Grp = Grp),
                                             AdtIs (fun (s : Grp) (b : Nat) ↦ packs (grpE s b)) grpE ∧
                                              ∀ (nb_2 : Nat),
                                               K
                                                (frm [] (bodyOf Tryz.f3)
                                                 [1, 1, 1, 1, 1, 1, 1, 0,
                                                  1, 0]
                                                 [])
                                                (Sy.mk (SV.vec 0 ao (List.length bs) cap :: (SV.raw (Value.tuple #[]) :: (SV.bool false :: (SV.ptr 3 b_2 0 :: (SV.ptr 4 b_3 0 :: (SV.int IntKind.i64 (3 : Int) :: (SV.int IntKind.i64 (1 : Int) :: (SV.int IntKind.i64 (0 : Int) :: (rawE (SV.bool true :: (SV.bool false :: (SV.vec 0 ao (List.length bs) cap :: (SV.int IntKind.i64 (↑(List.length bs) : Int) :: (SV.bool false :: (SV.ptr 3 b_2 0 :: (SV.agg [SV.str (ByteArray.mk #[(97 : UInt8)]), SV.str (ByteArray.mk #[(98 : UInt8)]), SV.str (ByteArray.mk #[(99 : UInt8)])] :: (SV.int IntKind.i64 (3 : Int) :: (SV.bool false :: (SV.int IntKind.i64 (2 : Int) :: (SV.int IntKind.i64 (3 : Int) :: (SV.ptr 3 b_2 0 :: (SV.ptr 2 b_1 0 :: (SV.int IntKind.i64 (2 : Int) :: (SV.ptr 4 b_3 2 :: (SV.str (ByteArray.mk #[(99 : UInt8)]) :: (SV.int IntKind.i64 (0 : Int) :: (SV.bool false :: (rawE [] 128))))))))))))))))))) 10)))))))))
                                                 [Ent.mk (Loc.sl ao cap) (SObj.roL 1 encU8 bs (0 : Int)),
                                                  pkA b ptE
                                                   (PT.mk bm
                                                    [(bp,
                                                     PR.mk (1 : Int) (0 : Int) (ByteArray.mk #[]) false (0 : Int) (ByteArray.mk #[]) false
                                                      false)]
                                                    (30 : Int) (1 : Int)),
                                                  pkA b_1 grpE
                                                   (Grp.mk bg bo (@none Addr) 0
                                                    [(Key.s (ByteArray.mk #[(97 : UInt8)]), nb, []),
                                                     (Key.s (ByteArray.mk #[(98 : UInt8)]), nb_1, []),
                                                     (Key.s (ByteArray.mk #[(99 : UInt8)]), nb_2, [])]
                                                    [] []),
                                                  Ent.mk (Loc.blk b_2)
                                                   (SObj.cells
                                                    [SV.ptr 1 b 0, SV.ptr 2 b_1 0, SV.raw (Value.pointer v),
                                                     SV.raw (Value.pointer v_1), SV.int IntKind.i64 (0 : Int), SV.int IntKind.i64 (0 : Int)]
                                                    96),
                                                  Ent.mk (Loc.blk b_3)
                                                   (SObj.cells
                                                    [SV.str (ByteArray.mk #[(97 : UInt8)]), SV.str (ByteArray.mk #[(98 : UInt8)]),
                                                     SV.str (ByteArray.mk #[(99 : UInt8)])]
                                                    26)])) ∧
                                        b_3 = b_3 ∧
                                         true = true ∧
                                          b_2 = b_2 ∧
                                           true = true ∧
                                            b_1 = b_1 ∧
                                             ∃ (h : Grp = Grp),
                                              AdtIs (fun (s : Grp) (b : Nat) ↦ packs (grpE s b)) grpE ∧
                                               ∀ (nb_2 : Nat),
                                                K
                                                 (frm [] (bodyOf Tryz.f3)
                                                  [1, 1, 1, 1, 1, 1, 1, 0,
                                                   1, 0]
                                                  [])
                                                 (Sy.mk (SV.vec 0 ao (List.length bs) cap :: (SV.raw (Value.tuple #[]) :: (SV.bool false :: (SV.ptr 3 b_2 0 :: (SV.ptr 4 b_3 0 :: (SV.int IntKind.i64 (3 : Int) :: (SV.int IntKind.i64 (1 : Int) :: (SV.int IntKind.i64 (0 : Int) :: (rawE (SV.bool true :: (SV.bool false :: (SV.vec 0 ao (List.length bs) cap :: (SV.int IntKind.i64 (↑(List.length bs) : Int) :: (SV.bool false :: (SV.ptr 3 b_2 0 :: (SV.agg [SV.str (ByteArray.mk #[(97 : UInt8)]), SV.str (ByteArray.mk #[(98 : UInt8)]), SV.str (ByteArray.mk #[(99 : UInt8)])] :: (SV.int IntKind.i64 (3 : Int) :: (SV.bool false :: (SV.int IntKind.i64 (2 : Int) :: (SV.int IntKind.i64 (3 : Int) :: (SV.ptr 3 b_2 0 :: (SV.ptr 2 b_1 0 :: (SV.int IntKind.i64 (2 : Int) :: (SV.ptr 4 b_3 2 :: (SV.str (ByteArray.mk #[(99 : UInt8)]) :: (SV.int IntKind.i64 (0 : Int) :: (SV.bool false :: (rawE [] 128))))))))))))))))))) 10)))))))))
                                                  [Ent.mk (Loc.sl ao cap) (SObj.roL 1 encU8 bs (0 : Int)),
                                                   pkA b ptE
                                                    (PT.mk bm
                                                     [(bp,
                                                      PR.mk (1 : Int) (0 : Int) (ByteArray.mk #[]) false (0 : Int) (ByteArray.mk #[]) false
                                                       false)]
                                                     (30 : Int) (1 : Int)),
                                                   pkA b_1 grpE
                                                    (Grp.mk bg bo (@none Addr) 0
                                                     [(Key.s (ByteArray.mk #[(97 : UInt8)]), nb, []),
                                                      (Key.s (ByteArray.mk #[(98 : UInt8)]), nb_1, []),
                                                      (Key.s (ByteArray.mk #[(99 : UInt8)]), nb_2, [])]
                                                     [] []),
                                                   Ent.mk (Loc.blk b_2)
                                                    (SObj.cells
                                                     [SV.ptr 1 b 0, SV.ptr 2 b_1 0, SV.raw (Value.pointer v),
                                                      SV.raw (Value.pointer v_1), SV.int IntKind.i64 (0 : Int), SV.int IntKind.i64 (0 : Int)]
                                                     96),
                                                   Ent.mk (Loc.blk b_3)
                                                    (SObj.cells
                                                     [SV.str (ByteArray.mk #[(97 : UInt8)]), SV.str (ByteArray.mk #[(98 : UInt8)]),
                                                      SV.str (ByteArray.mk #[(99 : UInt8)])]
                                                     26)])) ∧
                  ((0 : Int) ≤ (0 : Int) ∧ (0 : Int) < (↑3 : Int)) ∧
                   (true = true ∧
                    b_2 = b_2 ∧
                     b_3 = b_3 ∧
                      true = true ∧
                       b_1 = b_1 ∧
                        ∃ (h : Grp = Grp),
                         AdtIs (fun (s : Grp) (b : Nat) ↦ packs (grpE s b)) grpE ∧
                          ∀ (nb : Nat),
                           (true = true ∧
                            b_2 = b_2 ∧
                             ((0 : Int) ≤ (1 : Int) ∧ (1 : Int) < (↑3 : Int)) ∧
                              b_3 = b_3 ∧
                               true = true ∧
                                b_1 = b_1 ∧
                                 ∃ (h : Grp = Grp),
                                  AdtIs (fun (s : Grp) (b : Nat) ↦ packs (grpE s b)) grpE ∧
                                   ∀ (nb_1 : Nat),
                                    (true = true ∧
                                     b_2 = b_2 ∧
                                      ((0 : Int) ≤ (2 : Int) ∧ (2 : Int) < (↑3 : Int)) ∧
                                       b_3 = b_3 ∧
                                        true = true ∧
                                         b_1 = b_1 ∧
                                          ∃ (h : Grp = Grp),
                                           AdtIs (fun (s : Grp) (b : Nat) ↦ packs (grpE s b)) grpE ∧
                                            ∀ (nb_2 : Nat),
                                             K
                                              (frm [] (bodyOf Tryz.f3)
                                               [1, 1, 1, 1, 1, 1, 1, 0, 1,
                                                0]
                                               [])
                                              (Sy.mk (SV.vec 0 ao (List.length bs) cap :: (SV.raw (Value.tuple #[]) :: (SV.bool false :: (SV.ptr 3 b_2 0 :: (SV.ptr 4 b_3 0 :: (SV.int IntKind.i64 (3 : Int) :: (SV.int IntKind.i64 (1 : Int) :: (SV.int IntKind.i64 (0 : Int) :: (rawE (SV.bool true :: (SV.bool false :: (SV.vec 0 ao (List.length bs) cap :: (SV.int IntKind.i64 (↑(List.length bs) : Int) :: (SV.bool false :: (SV.ptr 3 b_2 0 :: (SV.agg [SV.str (ByteArray.mk #[(97 : UInt8)]), SV.str (ByteArray.mk #[(98 : UInt8)]), SV.str (ByteArray.mk #[(99 : UInt8)])] :: (SV.int IntKind.i64 (3 : Int) :: (SV.bool false :: (SV.int IntKind.i64 (2 : Int) :: (SV.int IntKind.i64 (3 : Int) :: (SV.ptr 3 b_2 0 :: (SV.ptr 2 b_1 0 :: (SV.int IntKind.i64 (2 : Int) :: (SV.ptr 4 b_3 2 :: (SV.str (ByteArray.mk #[(99 : UInt8)]) :: (SV.int IntKind.i64 (0 : Int) :: (SV.bool false :: (rawE [] 128))))))))))))))))))) 10)))))))))
                                               [Ent.mk (Loc.sl ao cap) (SObj.roL 1 encU8 bs (0 : Int)),
                                                pkA b ptE
                                                 (PT.mk bm
                                                  [(bp,
                                                   PR.mk (1 : Int) (0 : Int) (ByteArray.mk #[]) false (0 : Int) (ByteArray.mk #[]) false
                                                    false)]
                                                  (30 : Int) (1 : Int)),
                                                pkA b_1 grpE
                                                 (Grp.mk bg bo (@none Addr) 0
                                                  [(Key.s (ByteArray.mk #[(97 : UInt8)]), nb, []),
                                                   (Key.s (ByteArray.mk #[(98 : UInt8)]), nb_1, []),
                                                   (Key.s (ByteArray.mk #[(99 : UInt8)]), nb_2, [])]
                                                  [] []),
                                                Ent.mk (Loc.blk b_2)
                                                 (SObj.cells
                                                  [SV.ptr 1 b 0, SV.ptr 2 b_1 0, SV.raw (Value.pointer v),
                                                   SV.raw (Value.pointer v_1), SV.int IntKind.i64 (0 : Int), SV.int IntKind.i64 (0 : Int)]
                                                  96),
                                                Ent.mk (Loc.blk b_3)
                                                 (SObj.cells
                                                  [SV.str (ByteArray.mk #[(97 : UInt8)]), SV.str (ByteArray.mk #[(98 : UInt8)]),
                                                   SV.str (ByteArray.mk #[(99 : UInt8)])]
                                                  26)])) ∧
                                     ((0 : Int) ≤ (2 : Int) ∧ (2 : Int) < (↑3 : Int)) ∧
                                      (true = true ∧
                                       b_2 = b_2 ∧
                                        b_3 = b_3 ∧
                                         true = true ∧
                                          b_1 = b_1 ∧
                                           ∃ (h : Grp = Grp),
                                            AdtIs (fun (s : Grp) (b : Nat) ↦ packs (grpE s b)) grpE ∧
                                             ∀ (nb_2 : Nat),
                                              K
                                               (frm [] (bodyOf Tryz.f3)
                                                [1, 1, 1, 1, 1, 1, 1, 0,
                                                 1, 0]
                                                [])
                                               (Sy.mk (SV.vec 0 ao (List.length bs) cap :: (SV.raw (Value.tuple #[]) :: (SV.bool false :: (SV.ptr 3 b_2 0 :: (SV.ptr 4 b_3 0 :: (SV.int IntKind.i64 (3 : Int) :: (SV.int IntKind.i64 (1 : Int) :: (SV.int IntKind.i64 (0 : Int) :: (rawE (SV.bool true :: (SV.bool false :: (SV.vec 0 ao (List.length bs) cap :: (SV.int IntKind.i64 (↑(List.length bs) : Int) :: (SV.bool false :: (SV.ptr 3 b_2 0 :: (SV.agg [SV.str (ByteArray.mk #[(97 : UInt8)]), SV.str (ByteArray.mk #[(98 : UInt8)]), SV.str (ByteArray.mk #[(99 : UInt8)])] :: (SV.int IntKind.i64 (3 : Int) :: (SV.bool false :: (SV.int IntKind.i64 (2 : Int) :: (SV.int IntKind.i64 (3 : Int) :: (SV.ptr 3 b_2 0 :: (SV.ptr 2 b_1 0 :: (SV.int IntKind.i64 (2 : Int) :: (SV.ptr 4 b_3 2 :: (SV.str (ByteArray.mk #[(99 : UInt8)]) :: (SV.int IntKind.i64 (0 : Int) :: (SV.bool false :: (rawE [] 128))))))))))))))))))) 10)))))))))
                                                [Ent.mk (Loc.sl ao cap) (SObj.roL 1 encU8 bs (0 : Int)),
                                                 pkA b ptE
                                                  (PT.mk bm
                                                   [(bp,
                                                    PR.mk (1 : Int) (0 : Int) (ByteArray.mk #[]) false (0 : Int) (ByteArray.mk #[]) false
                                                     false)]
                                                   (30 : Int) (1 : Int)),
                                                 pkA b_1 grpE
                                                  (Grp.mk bg bo (@none Addr) 0
                                                   [(Key.s (ByteArray.mk #[(97 : UInt8)]), nb, []),
                                                    (Key.s (ByteArray.mk #[(98 : UInt8)]), nb_1, []),
                                                    (Key.s (ByteArray.mk #[(99 : UInt8)]), nb_2, [])]
                                                   [] []),
                                                 Ent.mk (Loc.blk b_2)
                                                  (SObj.cells
                                                   [SV.ptr 1 b 0, SV.ptr 2 b_1 0, SV.raw (Value.pointer v),
                                                    SV.raw (Value.pointer v_1), SV.int IntKind.i64 (0 : Int), SV.int IntKind.i64 (0 : Int)]
                                                   96),
                                                 Ent.mk (Loc.blk b_3)
                                                  (SObj.cells
                                                   [SV.str (ByteArray.mk #[(97 : UInt8)]), SV.str (ByteArray.mk #[(98 : UInt8)]),
                                                    SV.str (ByteArray.mk #[(99 : UInt8)])]
                                                   26)])) ∧
                                       b_3 = b_3 ∧
                                        true = true ∧
                                         b_2 = b_2 ∧
                                          true = true ∧
                                           b_1 = b_1 ∧
                                            ∃ (h : Grp = Grp),
                                             AdtIs (fun (s : Grp) (b : Nat) ↦ packs (grpE s b)) grpE ∧
                                              ∀ (nb_2 : Nat),
                                               K
                                                (frm [] (bodyOf Tryz.f3)
                                                 [1, 1, 1, 1, 1, 1, 1, 0,
                                                  1, 0]
                                                 [])
                                                (Sy.mk (SV.vec 0 ao (List.length bs) cap :: (SV.raw (Value.tuple #[]) :: (SV.bool false :: (SV.ptr 3 b_2 0 :: (SV.ptr 4 b_3 0 :: (SV.int IntKind.i64 (3 : Int) :: (SV.int IntKind.i64 (1 : Int) :: (SV.int IntKind.i64 (0 : Int) :: (rawE (SV.bool true :: (SV.bool false :: (SV.vec 0 ao (List.length bs) cap :: (SV.int IntKind.i64 (↑(List.length bs) : Int) :: (SV.bool false :: (SV.ptr 3 b_2 0 :: (SV.agg [SV.str (ByteArray.mk #[(97 : UInt8)]), SV.str (ByteArray.mk #[(98 : UInt8)]), SV.str (ByteArray.mk #[(99 : UInt8)])] :: (SV.int IntKind.i64 (3 : Int) :: (SV.bool false :: (SV.int IntKind.i64 (2 : Int) :: (SV.int IntKind.i64 (3 : Int) :: (SV.ptr 3 b_2 0 :: (SV.ptr 2 b_1 0 :: (SV.int IntKind.i64 (2 : Int) :: (SV.ptr 4 b_3 2 :: (SV.str (ByteArray.mk #[(99 : UInt8)]) :: (SV.int IntKind.i64 (0 : Int) :: (SV.bool false :: (rawE [] 128))))))))))))))))))) 10)))))))))
                                                 [Ent.mk (Loc.sl ao cap) (SObj.roL 1 encU8 bs (0 : Int)),
                                                  pkA b ptE
                                                   (PT.mk bm
                                                    [(bp,
                                                     PR.mk (1 : Int) (0 : Int) (ByteArray.mk #[]) false (0 : Int) (ByteArray.mk #[]) false
                                                      false)]
                                                    (30 : Int) (1 : Int)),
                                                  pkA b_1 grpE
                                                   (Grp.mk bg bo (@none Addr) 0
                                                    [(Key.s (ByteArray.mk #[(97 : UInt8)]), nb, []),
                                                     (Key.s (ByteArray.mk #[(98 : UInt8)]), nb_1, []),
                                                     (Key.s (ByteArray.mk #[(99 : UInt8)]), nb_2, [])]
                                                    [] []),
                                                  Ent.mk (Loc.blk b_2)
                                                   (SObj.cells
                                                    [SV.ptr 1 b 0, SV.ptr 2 b_1 0, SV.raw (Value.pointer v),
                                                     SV.raw (Value.pointer v_1), SV.int IntKind.i64 (0 : Int), SV.int IntKind.i64 (0 : Int)]
                                                    96),
                                                  Ent.mk (Loc.blk b_3)
                                                   (SObj.cells
                                                    [SV.str (ByteArray.mk #[(97 : UInt8)]), SV.str (ByteArray.mk #[(98 : UInt8)]),
                                                     SV.str (ByteArray.mk #[(99 : UInt8)])]
                                                    26)])) ∧
                            ((0 : Int) ≤ (1 : Int) ∧ (1 : Int) < (↑3 : Int)) ∧
                             (true = true ∧
                              b_2 = b_2 ∧
                               b_3 = b_3 ∧
                                true = true ∧
                                 b_1 = b_1 ∧
                                  ∃ (h : Grp = Grp),
                                   AdtIs (fun (s : Grp) (b : Nat) ↦ packs (grpE s b)) grpE ∧
                                    ∀ (nb_1 : Nat),
                                     (true = true ∧
                                      b_2 = b_2 ∧
                                       ((0 : Int) ≤ (2 : Int) ∧ (2 : Int) < (↑3 : Int)) ∧
                                        b_3 = b_3 ∧
                                         true = true ∧
                                          b_1 = b_1 ∧
                                           ∃ (h : Grp = Grp),
                                            AdtIs (fun (s : Grp) (b : Nat) ↦ packs (grpE s b)) grpE ∧
                                             ∀ (nb_2 : Nat),
                                              K
                                               (frm [] (bodyOf Tryz.f3)
                                                [1, 1, 1, 1, 1, 1, 1, 0,
                                                 1, 0]
                                                [])
                                               (Sy.mk (SV.vec 0 ao (List.length bs) cap :: (SV.raw (Value.tuple #[]) :: (SV.bool false :: (SV.ptr 3 b_2 0 :: (SV.ptr 4 b_3 0 :: (SV.int IntKind.i64 (3 : Int) :: (SV.int IntKind.i64 (1 : Int) :: (SV.int IntKind.i64 (0 : Int) :: (rawE (SV.bool true :: (SV.bool false :: (SV.vec 0 ao (List.length bs) cap :: (SV.int IntKind.i64 (↑(List.length bs) : Int) :: (SV.bool false :: (SV.ptr 3 b_2 0 :: (SV.agg [SV.str (ByteArray.mk #[(97 : UInt8)]), SV.str (ByteArray.mk #[(98 : UInt8)]), SV.str (ByteArray.mk #[(99 : UInt8)])] :: (SV.int IntKind.i64 (3 : Int) :: (SV.bool false :: (SV.int IntKind.i64 (2 : Int) :: (SV.int IntKind.i64 (3 : Int) :: (SV.ptr 3 b_2 0 :: (SV.ptr 2 b_1 0 :: (SV.int IntKind.i64 (2 : Int) :: (SV.ptr 4 b_3 2 :: (SV.str (ByteArray.mk #[(99 : UInt8)]) :: (SV.int IntKind.i64 (0 : Int) :: (SV.bool false :: (rawE [] 128))))))))))))))))))) 10)))))))))
                                                [Ent.mk (Loc.sl ao cap) (SObj.roL 1 encU8 bs (0 : Int)),
                                                 pkA b ptE
                                                  (PT.mk bm
                                                   [(bp,
                                                    PR.mk (1 : Int) (0 : Int) (ByteArray.mk #[]) false (0 : Int) (ByteArray.mk #[]) false
                                                     false)]
                                                   (30 : Int) (1 : Int)),
                                                 pkA b_1 grpE
                                                  (Grp.mk bg bo (@none Addr) 0
                                                   [(Key.s (ByteArray.mk #[(97 : UInt8)]), nb, []),
                                                    (Key.s (ByteArray.mk #[(98 : UInt8)]), nb_1, []),
                                                    (Key.s (ByteArray.mk #[(99 : UInt8)]), nb_2, [])]
                                                   [] []),
                                                 Ent.mk (Loc.blk b_2)
                                                  (SObj.cells
                                                   [SV.ptr 1 b 0, SV.ptr 2 b_1 0, SV.raw (Value.pointer v),
                                                    SV.raw (Value.pointer v_1), SV.int IntKind.i64 (0 : Int), SV.int IntKind.i64 (0 : Int)]
                                                   96),
                                                 Ent.mk (Loc.blk b_3)
                                                  (SObj.cells
                                                   [SV.str (ByteArray.mk #[(97 : UInt8)]), SV.str (ByteArray.mk #[(98 : UInt8)]),
                                                    SV.str (ByteArray.mk #[(99 : UInt8)])]
                                                   26)])) ∧
                                      ((0 : Int) ≤ (2 : Int) ∧ (2 : Int) < (↑3 : Int)) ∧
                                       (true = true ∧
                                        b_2 = b_2 ∧
                                         b_3 = b_3 ∧
                                          true = true ∧
                                           b_1 = b_1 ∧
                                            ∃ (h : Grp = Grp),
                                             AdtIs (fun (s : Grp) (b : Nat) ↦ packs (grpE s b)) grpE ∧
                                              ∀ (nb_2 : Nat),
                                               K
                                                (frm [] (bodyOf Tryz.f3)
                                                 [1, 1, 1, 1, 1, 1, 1, 0,
                                                  1, 0]
                                                 [])
                                                (Sy.mk (SV.vec 0 ao (List.length bs) cap :: (SV.raw (Value.tuple #[]) :: (SV.bool false :: (SV.ptr 3 b_2 0 :: (SV.ptr 4 b_3 0 :: (SV.int IntKind.i64 (3 : Int) :: (SV.int IntKind.i64 (1 : Int) :: (SV.int IntKind.i64 (0 : Int) :: (rawE (SV.bool true :: (SV.bool false :: (SV.vec 0 ao (List.length bs) cap :: (SV.int IntKind.i64 (↑(List.length bs) : Int) :: (SV.bool false :: (SV.ptr 3 b_2 0 :: (SV.agg [SV.str (ByteArray.mk #[(97 : UInt8)]), SV.str (ByteArray.mk #[(98 : UInt8)]), SV.str (ByteArray.mk #[(99 : UInt8)])] :: (SV.int IntKind.i64 (3 : Int) :: (SV.bool false :: (SV.int IntKind.i64 (2 : Int) :: (SV.int IntKind.i64 (3 : Int) :: (SV.ptr 3 b_2 0 :: (SV.ptr 2 b_1 0 :: (SV.int IntKind.i64 (2 : Int) :: (SV.ptr 4 b_3 2 :: (SV.str (ByteArray.mk #[(99 : UInt8)]) :: (SV.int IntKind.i64 (0 : Int) :: (SV.bool false :: (rawE [] 128))))))))))))))))))) 10)))))))))
                                                 [Ent.mk (Loc.sl ao cap) (SObj.roL 1 encU8 bs (0 : Int)),
                                                  pkA b ptE
                                                   (PT.mk bm
                                                    [(bp,
                                                     PR.mk (1 : Int) (0 : Int) (ByteArray.mk #[]) false (0 : Int) (ByteArray.mk #[]) false
                                                      false)]
                                                    (30 : Int) (1 : Int)),
                                                  pkA b_1 grpE
                                                   (Grp.mk bg bo (@none Addr) 0
                                                    [(Key.s (ByteArray.mk #[(97 : UInt8)]), nb, []),
                                                     (Key.s (ByteArray.mk #[(98 : UInt8)]), nb_1, []),
                                                     (Key.s (ByteArray.mk #[(99 : UInt8)]), nb_2, [])]
                                                    [] []),
                                                  Ent.mk (Loc.blk b_2)
                                                   (SObj.cells
                                                    [SV.ptr 1 b 0, SV.ptr 2 b_1 0, SV.raw (Value.pointer v),
                                                     SV.raw (Value.pointer v_1), SV.int IntKind.i64 (0 : Int), SV.int IntKind.i64 (0 : Int)]
                                                    96),
                                                  Ent.mk (Loc.blk b_3)
                                                   (SObj.cells
                                                    [SV.str (ByteArray.mk #[(97 : UInt8)]), SV.str (ByteArray.mk #[(98 : UInt8)]),
                                                     SV.str (ByteArray.mk #[(99 : UInt8)])]
                                                    26)])) ∧
                                        b_3 = b_3 ∧
                                         true = true ∧
                                          b_2 = b_2 ∧
                                           true = true ∧
                                            b_1 = b_1 ∧
                                             ∃ (h : Grp = Grp),
                                              AdtIs (fun (s : Grp) (b : Nat) ↦ packs (grpE s b)) grpE ∧
                                               ∀ (nb_2 : Nat),
                                                K
                                                 (frm [] (bodyOf Tryz.f3)
                                                  [1, 1, 1, 1, 1, 1, 1, 0,
                                                   1, 0]
                                                  [])
                                                 (Sy.mk (SV.vec 0 ao (List.length bs) cap :: (SV.raw (Value.tuple #[]) :: (SV.bool false :: (SV.ptr 3 b_2 0 :: (SV.ptr 4 b_3 0 :: (SV.int IntKind.i64 (3 : Int) :: (SV.int IntKind.i64 (1 : Int) :: (SV.int IntKind.i64 (0 : Int) :: (rawE (SV.bool true :: (SV.bool false :: (SV.vec 0 ao (List.length bs) cap :: (SV.int IntKind.i64 (↑(List.length bs) : Int) :: (SV.bool false :: (SV.ptr 3 b_2 0 :: (SV.agg [SV.str (ByteArray.mk #[(97 : UInt8)]), SV.str (ByteArray.mk #[(98 : UInt8)]), SV.str (ByteArray.mk #[(99 : UInt8)])] :: (SV.int IntKind.i64 (3 : Int) :: (SV.bool false :: (SV.int IntKind.i64 (2 : Int) :: (SV.int IntKind.i64 (3 : Int) :: (SV.ptr 3 b_2 0 :: (SV.ptr 2 b_1 0 :: (SV.int IntKind.i64 (2 : Int) :: (SV.ptr 4 b_3 2 :: (SV.str (ByteArray.mk #[(99 : UInt8)]) :: (SV.int IntKind.i64 (0 : Int) :: (SV.bool false :: (rawE [] 128))))))))))))))))))) 10)))))))))
                                                  [Ent.mk (Loc.sl ao cap) (SObj.roL 1 encU8 bs (0 : Int)),
                                                   pkA b ptE
                                                    (PT.mk bm
                                                     [(bp,
                                                      PR.mk (1 : Int) (0 : Int) (ByteArray.mk #[]) false (0 : Int) (ByteArray.mk #[]) false
                                                       false)]
                                                     (30 : Int) (1 : Int)),
                                                   pkA b_1 grpE
                                                    (Grp.mk bg bo (@none Addr) 0
                                                     [(Key.s (ByteArray.mk #[(97 : UInt8)]), nb, []),
                                                      (Key.s (ByteArray.mk #[(98 : UInt8)]), nb_1, []),
                                                      (Key.s (ByteArray.mk #[(99 : UInt8)]), nb_2, [])]
                                                     [] []),
                                                   Ent.mk (Loc.blk b_2)
                                                    (SObj.cells
                                                     [SV.ptr 1 b 0, SV.ptr 2 b_1 0, SV.raw (Value.pointer v),
                                                      SV.raw (Value.pointer v_1), SV.int IntKind.i64 (0 : Int), SV.int IntKind.i64 (0 : Int)]
                                                     96),
                                                   Ent.mk (Loc.blk b_3)
                                                    (SObj.cells
                                                     [SV.str (ByteArray.mk #[(97 : UInt8)]), SV.str (ByteArray.mk #[(98 : UInt8)]),
                                                      SV.str (ByteArray.mk #[(99 : UInt8)])]
                                                     26)])) ∧
                              b_3 = b_3 ∧
                               true = true ∧
                                b_2 = b_2 ∧
                                 true = true ∧
                                  b_1 = b_1 ∧
                                   ∃ (h : Grp = Grp),
                                    AdtIs (fun (s : Grp) (b : Nat) ↦ packs (grpE s b)) grpE ∧
                                     ∀ (nb_1 : Nat),
                                      (true = true ∧
                                       b_2 = b_2 ∧
                                        ((0 : Int) ≤ (2 : Int) ∧ (2 : Int) < (↑3 : Int)) ∧
                                         b_3 = b_3 ∧
                                          true = true ∧
                                           b_1 = b_1 ∧
                                            ∃ (h : Grp = Grp),
                                             AdtIs (fun (s : Grp) (b : Nat) ↦ packs (grpE s b)) grpE ∧
                                              ∀ (nb_2 : Nat),
                                               K
                                                (frm [] (bodyOf Tryz.f3)
                                                 [1, 1, 1, 1, 1, 1, 1, 0,
                                                  1, 0]
                                                 [])
                                                (Sy.mk (SV.vec 0 ao (List.length bs) cap :: (SV.raw (Value.tuple #[]) :: (SV.bool false :: (SV.ptr 3 b_2 0 :: (SV.ptr 4 b_3 0 :: (SV.int IntKind.i64 (3 : Int) :: (SV.int IntKind.i64 (1 : Int) :: (SV.int IntKind.i64 (0 : Int) :: (rawE (SV.bool true :: (SV.bool false :: (SV.vec 0 ao (List.length bs) cap :: (SV.int IntKind.i64 (↑(List.length bs) : Int) :: (SV.bool false :: (SV.ptr 3 b_2 0 :: (SV.agg [SV.str (ByteArray.mk #[(97 : UInt8)]), SV.str (ByteArray.mk #[(98 : UInt8)]), SV.str (ByteArray.mk #[(99 : UInt8)])] :: (SV.int IntKind.i64 (3 : Int) :: (SV.bool false :: (SV.int IntKind.i64 (2 : Int) :: (SV.int IntKind.i64 (3 : Int) :: (SV.ptr 3 b_2 0 :: (SV.ptr 2 b_1 0 :: (SV.int IntKind.i64 (2 : Int) :: (SV.ptr 4 b_3 2 :: (SV.str (ByteArray.mk #[(99 : UInt8)]) :: (SV.int IntKind.i64 (0 : Int) :: (SV.bool false :: (rawE [] 128))))))))))))))))))) 10)))))))))
                                                 [Ent.mk (Loc.sl ao cap) (SObj.roL 1 encU8 bs (0 : Int)),
                                                  pkA b ptE
                                                   (PT.mk bm
                                                    [(bp,
                                                     PR.mk (1 : Int) (0 : Int) (ByteArray.mk #[]) false (0 : Int) (ByteArray.mk #[]) false
                                                      false)]
                                                    (30 : Int) (1 : Int)),
                                                  pkA b_1 grpE
                                                   (Grp.mk bg bo (@none Addr) 0
                                                    [(Key.s (ByteArray.mk #[(97 : UInt8)]), nb, []),
                                                     (Key.s (ByteArray.mk #[(98 : UInt8)]), nb_1, []),
                                                     (Key.s (ByteArray.mk #[(99 : UInt8)]), nb_2, [])]
                                                    [] []),
                                                  Ent.mk (Loc.blk b_2)
                                                   (SObj.cells
                                                    [SV.ptr 1 b 0, SV.ptr 2 b_1 0, SV.raw (Value.pointer v),
                                                     SV.raw (Value.pointer v_1), SV.int IntKind.i64 (0 : Int), SV.int IntKind.i64 (0 : Int)]
                                                    96),
                                                  Ent.mk (Loc.blk b_3)
                                                   (SObj.cells
                                                    [SV.str (ByteArray.mk #[(97 : UInt8)]), SV.str (ByteArray.mk #[(98 : UInt8)]),
                                                     SV.str (ByteArray.mk #[(99 : UInt8)])]
                                                    26)])) ∧
                                       ((0 : Int) ≤ (2 : Int) ∧ (2 : Int) < (↑3 : Int)) ∧
                                        (true = true ∧
                                         b_2 = b_2 ∧
                                          b_3 = b_3 ∧
                                           true = true ∧
                                            b_1 = b_1 ∧
                                             ∃ (h : Grp = Grp),
                                              AdtIs (fun (s : Grp) (b : Nat) ↦ packs (grpE s b)) grpE ∧
                                               ∀ (nb_2 : Nat),
                                                K
                                                 (frm [] (bodyOf Tryz.f3)
                                                  [1, 1, 1, 1, 1, 1, 1, 0,
                                                   1, 0]
                                                  [])
                                                 (Sy.mk (SV.vec 0 ao (List.length bs) cap :: (SV.raw (Value.tuple #[]) :: (SV.bool false :: (SV.ptr 3 b_2 0 :: (SV.ptr 4 b_3 0 :: (SV.int IntKind.i64 (3 : Int) :: (SV.int IntKind.i64 (1 : Int) :: (SV.int IntKind.i64 (0 : Int) :: (rawE (SV.bool true :: (SV.bool false :: (SV.vec 0 ao (List.length bs) cap :: (SV.int IntKind.i64 (↑(List.length bs) : Int) :: (SV.bool false :: (SV.ptr 3 b_2 0 :: (SV.agg [SV.str (ByteArray.mk #[(97 : UInt8)]), SV.str (ByteArray.mk #[(98 : UInt8)]), SV.str (ByteArray.mk #[(99 : UInt8)])] :: (SV.int IntKind.i64 (3 : Int) :: (SV.bool false :: (SV.int IntKind.i64 (2 : Int) :: (SV.int IntKind.i64 (3 : Int) :: (SV.ptr 3 b_2 0 :: (SV.ptr 2 b_1 0 :: (SV.int IntKind.i64 (2 : Int) :: (SV.ptr 4 b_3 2 :: (SV.str (ByteArray.mk #[(99 : UInt8)]) :: (SV.int IntKind.i64 (0 : Int) :: (SV.bool false :: (rawE [] 128))))))))))))))))))) 10)))))))))
                                                  [Ent.mk (Loc.sl ao cap) (SObj.roL 1 encU8 bs (0 : Int)),
                                                   pkA b ptE
                                                    (PT.mk bm
                                                     [(bp,
                                                      PR.mk (1 : Int) (0 : Int) (ByteArray.mk #[]) false (0 : Int) (ByteArray.mk #[]) false
                                                       false)]
                                                     (30 : Int) (1 : Int)),
                                                   pkA b_1 grpE
                                                    (Grp.mk bg bo (@none Addr) 0
                                                     [(Key.s (ByteArray.mk #[(97 : UInt8)]), nb, []),
                                                      (Key.s (ByteArray.mk #[(98 : UInt8)]), nb_1, []),
                                                      (Key.s (ByteArray.mk #[(99 : UInt8)]), nb_2, [])]
                                                     [] []),
                                                   Ent.mk (Loc.blk b_2)
                                                    (SObj.cells
                                                     [SV.ptr 1 b 0, SV.ptr 2 b_1 0, SV.raw (Value.pointer v),
                                                      SV.raw (Value.pointer v_1), SV.int IntKind.i64 (0 : Int), SV.int IntKind.i64 (0 : Int)]
                                                     96),
                                                   Ent.mk (Loc.blk b_3)
                                                    (SObj.cells
                                                     [SV.str (ByteArray.mk #[(97 : UInt8)]), SV.str (ByteArray.mk #[(98 : UInt8)]),
                                                      SV.str (ByteArray.mk #[(99 : UInt8)])]
                                                     26)])) ∧
                                         b_3 = b_3 ∧
                                          true = true ∧
                                           b_2 = b_2 ∧
                                            true = true ∧
                                             b_1 = b_1 ∧
                                              ∃ (h : Grp = Grp),
                                               AdtIs (fun (s : Grp) (b : Nat) ↦ packs (grpE s b)) grpE ∧
                                                ∀ (nb_2 : Nat),
                                                 K
                                                  (frm [] (bodyOf Tryz.f3)
                                                   [1, 1, 1, 1, 1, 1, 1, 0,
                                                    1, 0]
                                                   [])
                                                  (Sy.mk (SV.vec 0 ao (List.length bs) cap :: (SV.raw (Value.tuple #[]) :: (SV.bool false :: (SV.ptr 3 b_2 0 :: (SV.ptr 4 b_3 0 :: (SV.int IntKind.i64 (3 : Int) :: (SV.int IntKind.i64 (1 : Int) :: (SV.int IntKind.i64 (0 : Int) :: (rawE (SV.bool true :: (SV.bool false :: (SV.vec 0 ao (List.length bs) cap :: (SV.int IntKind.i64 (↑(List.length bs) : Int) :: (SV.bool false :: (SV.ptr 3 b_2 0 :: (SV.agg [SV.str (ByteArray.mk #[(97 : UInt8)]), SV.str (ByteArray.mk #[(98 : UInt8)]), SV.str (ByteArray.mk #[(99 : UInt8)])] :: (SV.int IntKind.i64 (3 : Int) :: (SV.bool false :: (SV.int IntKind.i64 (2 : Int) :: (SV.int IntKind.i64 (3 : Int) :: (SV.ptr 3 b_2 0 :: (SV.ptr 2 b_1 0 :: (SV.int IntKind.i64 (2 : Int) :: (SV.ptr 4 b_3 2 :: (SV.str (ByteArray.mk #[(99 : UInt8)]) :: (SV.int IntKind.i64 (0 : Int) :: (SV.bool false :: (rawE [] 128))))))))))))))))))) 10)))))))))
                                                   [Ent.mk (Loc.sl ao cap) (SObj.roL 1 encU8 bs (0 : Int)),
                                                    pkA b ptE
                                                     (PT.mk bm
                                                      [(bp,
                                                       PR.mk (1 : Int) (0 : Int) (ByteArray.mk #[]) false (0 : Int) (ByteArray.mk #[]) false
                                                        false)]
                                                      (30 : Int) (1 : Int)),
                                                    pkA b_1 grpE
                                                     (Grp.mk bg bo (@none Addr) 0
                                                      [(Key.s (ByteArray.mk #[(97 : UInt8)]), nb, []),
                                                       (Key.s (ByteArray.mk #[(98 : UInt8)]), nb_1, []),
                                                       (Key.s (ByteArray.mk #[(99 : UInt8)]), nb_2, [])]
                                                      [] []),
                                                    Ent.mk (Loc.blk b_2)
                                                     (SObj.cells
                                                      [SV.ptr 1 b 0, SV.ptr 2 b_1 0, SV.raw (Value.pointer v),
                                                       SV.raw (Value.pointer v_1), SV.int IntKind.i64 (0 : Int), SV.int IntKind.i64 (0 : Int)]
                                                      96),
                                                    Ent.mk (Loc.blk b_3)
                                                     (SObj.cells
                                                      [SV.str (ByteArray.mk #[(97 : UInt8)]), SV.str (ByteArray.mk #[(98 : UInt8)]),
                                                       SV.str (ByteArray.mk #[(99 : UInt8)])]
                                                      26)])) ∧
                    b_3 = b_3 ∧
                     true = true ∧
                      b_2 = b_2 ∧
                       true = true ∧
                        b_1 = b_1 ∧
                         ∃ (h : Grp = Grp),
                          AdtIs (fun (s : Grp) (b : Nat) ↦ packs (grpE s b)) grpE ∧
                           ∀ (nb : Nat),
                            (true = true ∧
                             b_2 = b_2 ∧
                              ((0 : Int) ≤ (1 : Int) ∧ (1 : Int) < (↑3 : Int)) ∧
                               b_3 = b_3 ∧
                                true = true ∧
                                 b_1 = b_1 ∧
                                  ∃ (h : Grp = Grp),
                                   AdtIs (fun (s : Grp) (b : Nat) ↦ packs (grpE s b)) grpE ∧
                                    ∀ (nb_1 : Nat),
                                     (true = true ∧
                                      b_2 = b_2 ∧
                                       ((0 : Int) ≤ (2 : Int) ∧ (2 : Int) < (↑3 : Int)) ∧
                                        b_3 = b_3 ∧
                                         true = true ∧
                                          b_1 = b_1 ∧
                                           ∃ (h : Grp = Grp),
                                            AdtIs (fun (s : Grp) (b : Nat) ↦ packs (grpE s b)) grpE ∧
                                             ∀ (nb_2 : Nat),
                                              K
                                               (frm [] (bodyOf Tryz.f3)
                                                [1, 1, 1, 1, 1, 1, 1, 0, 1,
                                                 0]
                                                [])
                                               (Sy.mk (SV.vec 0 ao (List.length bs) cap :: (SV.raw (Value.tuple #[]) :: (SV.bool false :: (SV.ptr 3 b_2 0 :: (SV.ptr 4 b_3 0 :: (SV.int IntKind.i64 (3 : Int) :: (SV.int IntKind.i64 (1 : Int) :: (SV.int IntKind.i64 (0 : Int) :: (rawE (SV.bool true :: (SV.bool false :: (SV.vec 0 ao (List.length bs) cap :: (SV.int IntKind.i64 (↑(List.length bs) : Int) :: (SV.bool false :: (SV.ptr 3 b_2 0 :: (SV.agg [SV.str (ByteArray.mk #[(97 : UInt8)]), SV.str (ByteArray.mk #[(98 : UInt8)]), SV.str (ByteArray.mk #[(99 : UInt8)])] :: (SV.int IntKind.i64 (3 : Int) :: (SV.bool false :: (SV.int IntKind.i64 (2 : Int) :: (SV.int IntKind.i64 (3 : Int) :: (SV.ptr 3 b_2 0 :: (SV.ptr 2 b_1 0 :: (SV.int IntKind.i64 (2 : Int) :: (SV.ptr 4 b_3 2 :: (SV.str (ByteArray.mk #[(99 : UInt8)]) :: (SV.int IntKind.i64 (0 : Int) :: (SV.bool false :: (rawE [] 128))))))))))))))))))) 10)))))))))
                                                [Ent.mk (Loc.sl ao cap) (SObj.roL 1 encU8 bs (0 : Int)),
                                                 pkA b ptE
                                                  (PT.mk bm
                                                   [(bp,
                                                    PR.mk (1 : Int) (0 : Int) (ByteArray.mk #[]) false (0 : Int) (ByteArray.mk #[]) false
                                                     false)]
                                                   (30 : Int) (1 : Int)),
                                                 pkA b_1 grpE
                                                  (Grp.mk bg bo (@none Addr) 0
                                                   [(Key.s (ByteArray.mk #[(97 : UInt8)]), nb, []),
                                                    (Key.s (ByteArray.mk #[(98 : UInt8)]), nb_1, []),
                                                    (Key.s (ByteArray.mk #[(99 : UInt8)]), nb_2, [])]
                                                   [] []),
                                                 Ent.mk (Loc.blk b_2)
                                                  (SObj.cells
                                                   [SV.ptr 1 b 0, SV.ptr 2 b_1 0, SV.raw (Value.pointer v),
                                                    SV.raw (Value.pointer v_1), SV.int IntKind.i64 (0 : Int), SV.int IntKind.i64 (0 : Int)]
                                                   96),
                                                 Ent.mk (Loc.blk b_3)
                                                  (SObj.cells
                                                   [SV.str (ByteArray.mk #[(97 : UInt8)]), SV.str (ByteArray.mk #[(98 : UInt8)]),
                                                    SV.str (ByteArray.mk #[(99 : UInt8)])]
                                                   26)])) ∧
                                      ((0 : Int) ≤ (2 : Int) ∧ (2 : Int) < (↑3 : Int)) ∧
                                       (true = true ∧
                                        b_2 = b_2 ∧
                                         b_3 = b_3 ∧
                                          true = true ∧
                                           b_1 = b_1 ∧
                                            ∃ (h : Grp = Grp),
                                             AdtIs (fun (s : Grp) (b : Nat) ↦ packs (grpE s b)) grpE ∧
                                              ∀ (nb_2 : Nat),
                                               K
                                                (frm [] (bodyOf Tryz.f3)
                                                 [1, 1, 1, 1, 1, 1, 1, 0,
                                                  1, 0]
                                                 [])
                                                (Sy.mk (SV.vec 0 ao (List.length bs) cap :: (SV.raw (Value.tuple #[]) :: (SV.bool false :: (SV.ptr 3 b_2 0 :: (SV.ptr 4 b_3 0 :: (SV.int IntKind.i64 (3 : Int) :: (SV.int IntKind.i64 (1 : Int) :: (SV.int IntKind.i64 (0 : Int) :: (rawE (SV.bool true :: (SV.bool false :: (SV.vec 0 ao (List.length bs) cap :: (SV.int IntKind.i64 (↑(List.length bs) : Int) :: (SV.bool false :: (SV.ptr 3 b_2 0 :: (SV.agg [SV.str (ByteArray.mk #[(97 : UInt8)]), SV.str (ByteArray.mk #[(98 : UInt8)]), SV.str (ByteArray.mk #[(99 : UInt8)])] :: (SV.int IntKind.i64 (3 : Int) :: (SV.bool false :: (SV.int IntKind.i64 (2 : Int) :: (SV.int IntKind.i64 (3 : Int) :: (SV.ptr 3 b_2 0 :: (SV.ptr 2 b_1 0 :: (SV.int IntKind.i64 (2 : Int) :: (SV.ptr 4 b_3 2 :: (SV.str (ByteArray.mk #[(99 : UInt8)]) :: (SV.int IntKind.i64 (0 : Int) :: (SV.bool false :: (rawE [] 128))))))))))))))))))) 10)))))))))
                                                 [Ent.mk (Loc.sl ao cap) (SObj.roL 1 encU8 bs (0 : Int)),
                                                  pkA b ptE
                                                   (PT.mk bm
                                                    [(bp,
                                                     PR.mk (1 : Int) (0 : Int) (ByteArray.mk #[]) false (0 : Int) (ByteArray.mk #[]) false
                                                      false)]
                                                    (30 : Int) (1 : Int)),
                                                  pkA b_1 grpE
                                                   (Grp.mk bg bo (@none Addr) 0
                                                    [(Key.s (ByteArray.mk #[(97 : UInt8)]), nb, []),
                                                     (Key.s (ByteArray.mk #[(98 : UInt8)]), nb_1, []),
                                                     (Key.s (ByteArray.mk #[(99 : UInt8)]), nb_2, [])]
                                                    [] []),
                                                  Ent.mk (Loc.blk b_2)
                                                   (SObj.cells
                                                    [SV.ptr 1 b 0, SV.ptr 2 b_1 0, SV.raw (Value.pointer v),
                                                     SV.raw (Value.pointer v_1), SV.int IntKind.i64 (0 : Int), SV.int IntKind.i64 (0 : Int)]
                                                    96),
                                                  Ent.mk (Loc.blk b_3)
                                                   (SObj.cells
                                                    [SV.str (ByteArray.mk #[(97 : UInt8)]), SV.str (ByteArray.mk #[(98 : UInt8)]),
                                                     SV.str (ByteArray.mk #[(99 : UInt8)])]
                                                    26)])) ∧
                                        b_3 = b_3 ∧
                                         true = true ∧
                                          b_2 = b_2 ∧
                                           true = true ∧
                                            b_1 = b_1 ∧
                                             ∃ (h : Grp = Grp),
                                              AdtIs (fun (s : Grp) (b : Nat) ↦ packs (grpE s b)) grpE ∧
                                               ∀ (nb_2 : Nat),
                                                K
                                                 (frm [] (bodyOf Tryz.f3)
                                                  [1, 1, 1, 1, 1, 1, 1, 0,
                                                   1, 0]
                                                  [])
                                                 (Sy.mk (SV.vec 0 ao (List.length bs) cap :: (SV.raw (Value.tuple #[]) :: (SV.bool false :: (SV.ptr 3 b_2 0 :: (SV.ptr 4 b_3 0 :: (SV.int IntKind.i64 (3 : Int) :: (SV.int IntKind.i64 (1 : Int) :: (SV.int IntKind.i64 (0 : Int) :: (rawE (SV.bool true :: (SV.bool false :: (SV.vec 0 ao (List.length bs) cap :: (SV.int IntKind.i64 (↑(List.length bs) : Int) :: (SV.bool false :: (SV.ptr 3 b_2 0 :: (SV.agg [SV.str (ByteArray.mk #[(97 : UInt8)]), SV.str (ByteArray.mk #[(98 : UInt8)]), SV.str (ByteArray.mk #[(99 : UInt8)])] :: (SV.int IntKind.i64 (3 : Int) :: (SV.bool false :: (SV.int IntKind.i64 (2 : Int) :: (SV.int IntKind.i64 (3 : Int) :: (SV.ptr 3 b_2 0 :: (SV.ptr 2 b_1 0 :: (SV.int IntKind.i64 (2 : Int) :: (SV.ptr 4 b_3 2 :: (SV.str (ByteArray.mk #[(99 : UInt8)]) :: (SV.int IntKind.i64 (0 : Int) :: (SV.bool false :: (rawE [] 128))))))))))))))))))) 10)))))))))
                                                  [Ent.mk (Loc.sl ao cap) (SObj.roL 1 encU8 bs (0 : Int)),
                                                   pkA b ptE
                                                    (PT.mk bm
                                                     [(bp,
                                                      PR.mk (1 : Int) (0 : Int) (ByteArray.mk #[]) false (0 : Int) (ByteArray.mk #[]) false
                                                       false)]
                                                     (30 : Int) (1 : Int)),
                                                   pkA b_1 grpE
                                                    (Grp.mk bg bo (@none Addr) 0
                                                     [(Key.s (ByteArray.mk #[(97 : UInt8)]), nb, []),
                                                      (Key.s (ByteArray.mk #[(98 : UInt8)]), nb_1, []),
                                                      (Key.s (ByteArray.mk #[(99 : UInt8)]), nb_2, [])]
                                                     [] []),
                                                   Ent.mk (Loc.blk b_2)
                                                    (SObj.cells
                                                     [SV.ptr 1 b 0, SV.ptr 2 b_1 0, SV.raw (Value.pointer v),
                                                      SV.raw (Value.pointer v_1), SV.int IntKind.i64 (0 : Int), SV.int IntKind.i64 (0 : Int)]
                                                     96),
                                                   Ent.mk (Loc.blk b_3)
                                                    (SObj.cells
                                                     [SV.str (ByteArray.mk #[(97 : UInt8)]), SV.str (ByteArray.mk #[(98 : UInt8)]),
                                                      SV.str (ByteArray.mk #[(99 : UInt8)])]
                                                     26)])) ∧
                             ((0 : Int) ≤ (1 : Int) ∧ (1 : Int) < (↑3 : Int)) ∧
                              (true = true ∧
                               b_2 = b_2 ∧
                                b_3 = b_3 ∧
                                 true = true ∧
                                  b_1 = b_1 ∧
                                   ∃ (h : Grp = Grp),
                                    AdtIs (fun (s : Grp) (b : Nat) ↦ packs (grpE s b)) grpE ∧
                                     ∀ (nb_1 : Nat),
                                      (true = true ∧
                                       b_2 = b_2 ∧
                                        ((0 : Int) ≤ (2 : Int) ∧ (2 : Int) < (↑3 : Int)) ∧
                                         b_3 = b_3 ∧
                                          true = true ∧
                                           b_1 = b_1 ∧
                                            ∃ (h : Grp = Grp),
                                             AdtIs (fun (s : Grp) (b : Nat) ↦ packs (grpE s b)) grpE ∧
                                              ∀ (nb_2 : Nat),
                                               K
                                                (frm [] (bodyOf Tryz.f3)
                                                 [1, 1, 1, 1, 1, 1, 1, 0,
                                                  1, 0]
                                                 [])
                                                (Sy.mk (SV.vec 0 ao (List.length bs) cap :: (SV.raw (Value.tuple #[]) :: (SV.bool false :: (SV.ptr 3 b_2 0 :: (SV.ptr 4 b_3 0 :: (SV.int IntKind.i64 (3 : Int) :: (SV.int IntKind.i64 (1 : Int) :: (SV.int IntKind.i64 (0 : Int) :: (rawE (SV.bool true :: (SV.bool false :: (SV.vec 0 ao (List.length bs) cap :: (SV.int IntKind.i64 (↑(List.length bs) : Int) :: (SV.bool false :: (SV.ptr 3 b_2 0 :: (SV.agg [SV.str (ByteArray.mk #[(97 : UInt8)]), SV.str (ByteArray.mk #[(98 : UInt8)]), SV.str (ByteArray.mk #[(99 : UInt8)])] :: (SV.int IntKind.i64 (3 : Int) :: (SV.bool false :: (SV.int IntKind.i64 (2 : Int) :: (SV.int IntKind.i64 (3 : Int) :: (SV.ptr 3 b_2 0 :: (SV.ptr 2 b_1 0 :: (SV.int IntKind.i64 (2 : Int) :: (SV.ptr 4 b_3 2 :: (SV.str (ByteArray.mk #[(99 : UInt8)]) :: (SV.int IntKind.i64 (0 : Int) :: (SV.bool false :: (rawE [] 128))))))))))))))))))) 10)))))))))
                                                 [Ent.mk (Loc.sl ao cap) (SObj.roL 1 encU8 bs (0 : Int)),
                                                  pkA b ptE
                                                   (PT.mk bm
                                                    [(bp,
                                                     PR.mk (1 : Int) (0 : Int) (ByteArray.mk #[]) false (0 : Int) (ByteArray.mk #[]) false
                                                      false)]
                                                    (30 : Int) (1 : Int)),
                                                  pkA b_1 grpE
                                                   (Grp.mk bg bo (@none Addr) 0
                                                    [(Key.s (ByteArray.mk #[(97 : UInt8)]), nb, []),
                                                     (Key.s (ByteArray.mk #[(98 : UInt8)]), nb_1, []),
                                                     (Key.s (ByteArray.mk #[(99 : UInt8)]), nb_2, [])]
                                                    [] []),
                                                  Ent.mk (Loc.blk b_2)
                                                   (SObj.cells
                                                    [SV.ptr 1 b 0, SV.ptr 2 b_1 0, SV.raw (Value.pointer v),
                                                     SV.raw (Value.pointer v_1), SV.int IntKind.i64 (0 : Int), SV.int IntKind.i64 (0 : Int)]
                                                    96),
                                                  Ent.mk (Loc.blk b_3)
                                                   (SObj.cells
                                                    [SV.str (ByteArray.mk #[(97 : UInt8)]), SV.str (ByteArray.mk #[(98 : UInt8)]),
                                                     SV.str (ByteArray.mk #[(99 : UInt8)])]
                                                    26)])) ∧
                                       ((0 : Int) ≤ (2 : Int) ∧ (2 : Int) < (↑3 : Int)) ∧
                                        (true = true ∧
                                         b_2 = b_2 ∧
                                          b_3 = b_3 ∧
                                           true = true ∧
                                            b_1 = b_1 ∧
                                             ∃ (h : Grp = Grp),
                                              AdtIs (fun (s : Grp) (b : Nat) ↦ packs (grpE s b)) grpE ∧
                                               ∀ (nb_2 : Nat),
                                                K
                                                 (frm [] (bodyOf Tryz.f3)
                                                  [1, 1, 1, 1, 1, 1, 1, 0,
                                                   1, 0]
                                                  [])
                                                 (Sy.mk (SV.vec 0 ao (List.length bs) cap :: (SV.raw (Value.tuple #[]) :: (SV.bool false :: (SV.ptr 3 b_2 0 :: (SV.ptr 4 b_3 0 :: (SV.int IntKind.i64 (3 : Int) :: (SV.int IntKind.i64 (1 : Int) :: (SV.int IntKind.i64 (0 : Int) :: (rawE (SV.bool true :: (SV.bool false :: (SV.vec 0 ao (List.length bs) cap :: (SV.int IntKind.i64 (↑(List.length bs) : Int) :: (SV.bool false :: (SV.ptr 3 b_2 0 :: (SV.agg [SV.str (ByteArray.mk #[(97 : UInt8)]), SV.str (ByteArray.mk #[(98 : UInt8)]), SV.str (ByteArray.mk #[(99 : UInt8)])] :: (SV.int IntKind.i64 (3 : Int) :: (SV.bool false :: (SV.int IntKind.i64 (2 : Int) :: (SV.int IntKind.i64 (3 : Int) :: (SV.ptr 3 b_2 0 :: (SV.ptr 2 b_1 0 :: (SV.int IntKind.i64 (2 : Int) :: (SV.ptr 4 b_3 2 :: (SV.str (ByteArray.mk #[(99 : UInt8)]) :: (SV.int IntKind.i64 (0 : Int) :: (SV.bool false :: (rawE [] 128))))))))))))))))))) 10)))))))))
                                                  [Ent.mk (Loc.sl ao cap) (SObj.roL 1 encU8 bs (0 : Int)),
                                                   pkA b ptE
                                                    (PT.mk bm
                                                     [(bp,
                                                      PR.mk (1 : Int) (0 : Int) (ByteArray.mk #[]) false (0 : Int) (ByteArray.mk #[]) false
                                                       false)]
                                                     (30 : Int) (1 : Int)),
                                                   pkA b_1 grpE
                                                    (Grp.mk bg bo (@none Addr) 0
                                                     [(Key.s (ByteArray.mk #[(97 : UInt8)]), nb, []),
                                                      (Key.s (ByteArray.mk #[(98 : UInt8)]), nb_1, []),
                                                      (Key.s (ByteArray.mk #[(99 : UInt8)]), nb_2, [])]
                                                     [] []),
                                                   Ent.mk (Loc.blk b_2)
                                                    (SObj.cells
                                                     [SV.ptr 1 b 0, SV.ptr 2 b_1 0, SV.raw (Value.pointer v),
                                                      SV.raw (Value.pointer v_1), SV.int IntKind.i64 (0 : Int), SV.int IntKind.i64 (0 : Int)]
                                                     96),
                                                   Ent.mk (Loc.blk b_3)
                                                    (SObj.cells
                                                     [SV.str (ByteArray.mk #[(97 : UInt8)]), SV.str (ByteArray.mk #[(98 : UInt8)]),
                                                      SV.str (ByteArray.mk #[(99 : UInt8)])]
                                                     26)])) ∧
                                         b_3 = b_3 ∧
                                          true = true ∧
                                           b_2 = b_2 ∧
                                            true = true ∧
                                             b_1 = b_1 ∧
                                              ∃ (h : Grp = Grp),
                                               AdtIs (fun (s : Grp) (b : Nat) ↦ packs (grpE s b)) grpE ∧
                                                ∀ (nb_2 : Nat),
                                                 K
                                                  (frm [] (bodyOf Tryz.f3)
                                                   [1, 1, 1, 1, 1, 1, 1, 0,
                                                    1, 0]
                                                   [])
                                                  (Sy.mk (SV.vec 0 ao (List.length bs) cap :: (SV.raw (Value.tuple #[]) :: (SV.bool false :: (SV.ptr 3 b_2 0 :: (SV.ptr 4 b_3 0 :: (SV.int IntKind.i64 (3 : Int) :: (SV.int IntKind.i64 (1 : Int) :: (SV.int IntKind.i64 (0 : Int) :: (rawE (SV.bool true :: (SV.bool false :: (SV.vec 0 ao (List.length bs) cap :: (SV.int IntKind.i64 (↑(List.length bs) : Int) :: (SV.bool false :: (SV.ptr 3 b_2 0 :: (SV.agg [SV.str (ByteArray.mk #[(97 : UInt8)]), SV.str (ByteArray.mk #[(98 : UInt8)]), SV.str (ByteArray.mk #[(99 : UInt8)])] :: (SV.int IntKind.i64 (3 : Int) :: (SV.bool false :: (SV.int IntKind.i64 (2 : Int) :: (SV.int IntKind.i64 (3 : Int) :: (SV.ptr 3 b_2 0 :: (SV.ptr 2 b_1 0 :: (SV.int IntKind.i64 (2 : Int) :: (SV.ptr 4 b_3 2 :: (SV.str (ByteArray.mk #[(99 : UInt8)]) :: (SV.int IntKind.i64 (0 : Int) :: (SV.bool false :: (rawE [] 128))))))))))))))))))) 10)))))))))
                                                   [Ent.mk (Loc.sl ao cap) (SObj.roL 1 encU8 bs (0 : Int)),
                                                    pkA b ptE
                                                     (PT.mk bm
                                                      [(bp,
                                                       PR.mk (1 : Int) (0 : Int) (ByteArray.mk #[]) false (0 : Int) (ByteArray.mk #[]) false
                                                        false)]
                                                      (30 : Int) (1 : Int)),
                                                    pkA b_1 grpE
                                                     (Grp.mk bg bo (@none Addr) 0
                                                      [(Key.s (ByteArray.mk #[(97 : UInt8)]), nb, []),
                                                       (Key.s (ByteArray.mk #[(98 : UInt8)]), nb_1, []),
                                                       (Key.s (ByteArray.mk #[(99 : UInt8)]), nb_2, [])]
                                                      [] []),
                                                    Ent.mk (Loc.blk b_2)
                                                     (SObj.cells
                                                      [SV.ptr 1 b 0, SV.ptr 2 b_1 0, SV.raw (Value.pointer v),
                                                       SV.raw (Value.pointer v_1), SV.int IntKind.i64 (0 : Int), SV.int IntKind.i64 (0 : Int)]
                                                      96),
                                                    Ent.mk (Loc.blk b_3)
                                                     (SObj.cells
                                                      [SV.str (ByteArray.mk #[(97 : UInt8)]), SV.str (ByteArray.mk #[(98 : UInt8)]),
                                                       SV.str (ByteArray.mk #[(99 : UInt8)])]
                                                      26)])) ∧
                               b_3 = b_3 ∧
                                true = true ∧
                                 b_2 = b_2 ∧
                                  true = true ∧
                                   b_1 = b_1 ∧
                                    ∃ (h : Grp = Grp),
                                     AdtIs (fun (s : Grp) (b : Nat) ↦ packs (grpE s b)) grpE ∧
                                      ∀ (nb_1 : Nat),
                                       (true = true ∧
                                        b_2 = b_2 ∧
                                         ((0 : Int) ≤ (2 : Int) ∧ (2 : Int) < (↑3 : Int)) ∧
                                          b_3 = b_3 ∧
                                           true = true ∧
                                            b_1 = b_1 ∧
                                             ∃ (h : Grp = Grp),
                                              AdtIs (fun (s : Grp) (b : Nat) ↦ packs (grpE s b)) grpE ∧
                                               ∀ (nb_2 : Nat),
                                                K
                                                 (frm [] (bodyOf Tryz.f3)
                                                  [1, 1, 1, 1, 1, 1, 1, 0,
                                                   1, 0]
                                                  [])
                                                 (Sy.mk (SV.vec 0 ao (List.length bs) cap :: (SV.raw (Value.tuple #[]) :: (SV.bool false :: (SV.ptr 3 b_2 0 :: (SV.ptr 4 b_3 0 :: (SV.int IntKind.i64 (3 : Int) :: (SV.int IntKind.i64 (1 : Int) :: (SV.int IntKind.i64 (0 : Int) :: (rawE (SV.bool true :: (SV.bool false :: (SV.vec 0 ao (List.length bs) cap :: (SV.int IntKind.i64 (↑(List.length bs) : Int) :: (SV.bool false :: (SV.ptr 3 b_2 0 :: (SV.agg [SV.str (ByteArray.mk #[(97 : UInt8)]), SV.str (ByteArray.mk #[(98 : UInt8)]), SV.str (ByteArray.mk #[(99 : UInt8)])] :: (SV.int IntKind.i64 (3 : Int) :: (SV.bool false :: (SV.int IntKind.i64 (2 : Int) :: (SV.int IntKind.i64 (3 : Int) :: (SV.ptr 3 b_2 0 :: (SV.ptr 2 b_1 0 :: (SV.int IntKind.i64 (2 : Int) :: (SV.ptr 4 b_3 2 :: (SV.str (ByteArray.mk #[(99 : UInt8)]) :: (SV.int IntKind.i64 (0 : Int) :: (SV.bool false :: (rawE [] 128))))))))))))))))))) 10)))))))))
                                                  [Ent.mk (Loc.sl ao cap) (SObj.roL 1 encU8 bs (0 : Int)),
                                                   pkA b ptE
                                                    (PT.mk bm
                                                     [(bp,
                                                      PR.mk (1 : Int) (0 : Int) (ByteArray.mk #[]) false (0 : Int) (ByteArray.mk #[]) false
                                                       false)]
                                                     (30 : Int) (1 : Int)),
                                                   pkA b_1 grpE
                                                    (Grp.mk bg bo (@none Addr) 0
                                                     [(Key.s (ByteArray.mk #[(97 : UInt8)]), nb, []),
                                                      (Key.s (ByteArray.mk #[(98 : UInt8)]), nb_1, []),
                                                      (Key.s (ByteArray.mk #[(99 : UInt8)]), nb_2, [])]
                                                     [] []),
                                                   Ent.mk (Loc.blk b_2)
                                                    (SObj.cells
                                                     [SV.ptr 1 b 0, SV.ptr 2 b_1 0, SV.raw (Value.pointer v),
                                                      SV.raw (Value.pointer v_1), SV.int IntKind.i64 (0 : Int), SV.int IntKind.i64 (0 : Int)]
                                                     96),
                                                   Ent.mk (Loc.blk b_3)
                                                    (SObj.cells
                                                     [SV.str (ByteArray.mk #[(97 : UInt8)]), SV.str (ByteArray.mk #[(98 : UInt8)]),
                                                      SV.str (ByteArray.mk #[(99 : UInt8)])]
                                                     26)])) ∧
                                        ((0 : Int) ≤ (2 : Int) ∧ (2 : Int) < (↑3 : Int)) ∧
                                         (true = true ∧
                                          b_2 = b_2 ∧
                                           b_3 = b_3 ∧
                                            true = true ∧
                                             b_1 = b_1 ∧
                                              ∃ (h : Grp = Grp),
                                               AdtIs (fun (s : Grp) (b : Nat) ↦ packs (grpE s b)) grpE ∧
                                                ∀ (nb_2 : Nat),
                                                 K
                                                  (frm [] (bodyOf Tryz.f3)
                                                   [1, 1, 1, 1, 1, 1, 1, 0,
                                                    1, 0]
                                                   [])
                                                  (Sy.mk (SV.vec 0 ao (List.length bs) cap :: (SV.raw (Value.tuple #[]) :: (SV.bool false :: (SV.ptr 3 b_2 0 :: (SV.ptr 4 b_3 0 :: (SV.int IntKind.i64 (3 : Int) :: (SV.int IntKind.i64 (1 : Int) :: (SV.int IntKind.i64 (0 : Int) :: (rawE (SV.bool true :: (SV.bool false :: (SV.vec 0 ao (List.length bs) cap :: (SV.int IntKind.i64 (↑(List.length bs) : Int) :: (SV.bool false :: (SV.ptr 3 b_2 0 :: (SV.agg [SV.str (ByteArray.mk #[(97 : UInt8)]), SV.str (ByteArray.mk #[(98 : UInt8)]), SV.str (ByteArray.mk #[(99 : UInt8)])] :: (SV.int IntKind.i64 (3 : Int) :: (SV.bool false :: (SV.int IntKind.i64 (2 : Int) :: (SV.int IntKind.i64 (3 : Int) :: (SV.ptr 3 b_2 0 :: (SV.ptr 2 b_1 0 :: (SV.int IntKind.i64 (2 : Int) :: (SV.ptr 4 b_3 2 :: (SV.str (ByteArray.mk #[(99 : UInt8)]) :: (SV.int IntKind.i64 (0 : Int) :: (SV.bool false :: (rawE [] 128))))))))))))))))))) 10)))))))))
                                                   [Ent.mk (Loc.sl ao cap) (SObj.roL 1 encU8 bs (0 : Int)),
                                                    pkA b ptE
                                                     (PT.mk bm
                                                      [(bp,
                                                       PR.mk (1 : Int) (0 : Int) (ByteArray.mk #[]) false (0 : Int) (ByteArray.mk #[]) false
                                                        false)]
                                                      (30 : Int) (1 : Int)),
                                                    pkA b_1 grpE
                                                     (Grp.mk bg bo (@none Addr) 0
                                                      [(Key.s (ByteArray.mk #[(97 : UInt8)]), nb, []),
                                                       (Key.s (ByteArray.mk #[(98 : UInt8)]), nb_1, []),
                                                       (Key.s (ByteArray.mk #[(99 : UInt8)]), nb_2, [])]
                                                      [] []),
                                                    Ent.mk (Loc.blk b_2)
                                                     (SObj.cells
                                                      [SV.ptr 1 b 0, SV.ptr 2 b_1 0, SV.raw (Value.pointer v),
                                                       SV.raw (Value.pointer v_1), SV.int IntKind.i64 (0 : Int), SV.int IntKind.i64 (0 : Int)]
                                                      96),
                                                    Ent.mk (Loc.blk b_3)
                                                     (SObj.cells
                                                      [SV.str (ByteArray.mk #[(97 : UInt8)]), SV.str (ByteArray.mk #[(98 : UInt8)]),
                                                       SV.str (ByteArray.mk #[(99 : UInt8)])]
                                                      26)])) ∧
                                          b_3 = b_3 ∧
                                           true = true ∧
                                            b_2 = b_2 ∧
                                             true = true ∧
                                              b_1 = b_1 ∧
                                               ∃ (h : Grp = Grp),
                                                AdtIs (fun (s : Grp) (b : Nat) ↦ packs (grpE s b)) grpE ∧
                                                 ∀ (nb_2 : Nat),
                                                  K
                                                   (frm [] (bodyOf Tryz.f3)
                                                    [1, 1, 1, 1, 1, 1, 1, 0,
                                                     1, 0]
                                                    [])
                                                   (Sy.mk (SV.vec 0 ao (List.length bs) cap :: (SV.raw (Value.tuple #[]) :: (SV.bool false :: (SV.ptr 3 b_2 0 :: (SV.ptr 4 b_3 0 :: (SV.int IntKind.i64 (3 : Int) :: (SV.int IntKind.i64 (1 : Int) :: (SV.int IntKind.i64 (0 : Int) :: (rawE (SV.bool true :: (SV.bool false :: (SV.vec 0 ao (List.length bs) cap :: (SV.int IntKind.i64 (↑(List.length bs) : Int) :: (SV.bool false :: (SV.ptr 3 b_2 0 :: (SV.agg [SV.str (ByteArray.mk #[(97 : UInt8)]), SV.str (ByteArray.mk #[(98 : UInt8)]), SV.str (ByteArray.mk #[(99 : UInt8)])] :: (SV.int IntKind.i64 (3 : Int) :: (SV.bool false :: (SV.int IntKind.i64 (2 : Int) :: (SV.int IntKind.i64 (3 : Int) :: (SV.ptr 3 b_2 0 :: (SV.ptr 2 b_1 0 :: (SV.int IntKind.i64 (2 : Int) :: (SV.ptr 4 b_3 2 :: (SV.str (ByteArray.mk #[(99 : UInt8)]) :: (SV.int IntKind.i64 (0 : Int) :: (SV.bool false :: (rawE [] 128))))))))))))))))))) 10)))))))))
                                                    [Ent.mk (Loc.sl ao cap) (SObj.roL 1 encU8 bs (0 : Int)),
                                                     pkA b ptE
                                                      (PT.mk bm
                                                       [(bp,
                                                        PR.mk (1 : Int) (0 : Int) (ByteArray.mk #[]) false (0 : Int) (ByteArray.mk #[]) false
                                                         false)]
                                                       (30 : Int) (1 : Int)),
                                                     pkA b_1 grpE
                                                      (Grp.mk bg bo (@none Addr) 0
                                                       [(Key.s (ByteArray.mk #[(97 : UInt8)]), nb, []),
                                                        (Key.s (ByteArray.mk #[(98 : UInt8)]), nb_1, []),
                                                        (Key.s (ByteArray.mk #[(99 : UInt8)]), nb_2, [])]
                                                       [] []),
                                                     Ent.mk (Loc.blk b_2)
                                                      (SObj.cells
                                                       [SV.ptr 1 b 0, SV.ptr 2 b_1 0, SV.raw (Value.pointer v),
                                                        SV.raw (Value.pointer v_1), SV.int IntKind.i64 (0 : Int), SV.int IntKind.i64 (0 : Int)]
                                                       96),
                                                     Ent.mk (Loc.blk b_3)
                                                      (SObj.cells
                                                       [SV.str (ByteArray.mk #[(97 : UInt8)]), SV.str (ByteArray.mk #[(98 : UInt8)]),
                                                        SV.str (ByteArray.mk #[(99 : UInt8)])]
                                                       26)])) := by kernel_rfl
end Go.Proofs.YtkcmgcoppecfpaaGreat

