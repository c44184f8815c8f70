import Derived.Test.YtjnkfgigpapeaaaPOC
import Derived.Test.YtjnkfgigpapeaaaTab
namespace Go.Proofs.Ytjnkfgigpapeaaa
set_option linter.unusedVariables false
open Go Go.RowKit
set_option maxHeartbeats 0
set_option maxRecDepth 100000

theorem po_head (K : List Frm → Sy → Prop) (N : List Ent → SV → Prop) (J : Act → World → Prop) (u : Nat → Value) (c0 : Ch) (cap cap1 cap2 b1 b2 b3 : Nat) (ao ao1 ao2 : Option Addr) (bs gs : List Int) (cs : List (Int × ByteArray)) (i last : Int) : (run Try.prog port4 false [21, 32, 14, 39] K (retP Try.prog Try.f8.results.toList N) 900 (frm [J] (bodyOf Try.f8) [1, 1, 1, 1, 1, 1, 1, 0, 1, 0, 0] []) ⟨mkT u 103 0 (poLive ao bs cap b2 gs ao1 cap1 last i), poHeap c0 ao bs cap b1 b2 b3 gs ao1 cap1 cs ao2 cap2 last⟩) = (
match decide (i < (↑(List.length bs) : Int)) with
| true =>
  (ao = ao ∧ cap = cap ∧ List.length bs = List.length bs ∧ (0 : Int) ≤ i ∧ i < (↑(List.length bs) : Int)) ∧
    (Addr.blkD ao = Addr.blkD ao ∧ Addr.offD ao = Addr.offD ao ∧ (1 : Nat) = (1 : Nat) ∧ Int.toNat i < List.length bs) ∧
      (8 : Int) ≠ (0 : Int) ∧
        match Int.tmod (List.getD bs (Int.toNat i) (0 : Int)) (8 : Int) == (0 : Int) with
        | true =>
          K (frmR [J] (bodyOf Try.f8) (21 : Nat))
            (Sy.mk
              [SV.vec (0 : Nat) ao (List.length bs) cap, SV.raw (u (1 : Nat)), SV.bool false, SV.ptr (2 : Nat) b2 (0 : Nat), SV.vec (4 : Nat) ao1 (List.length gs) cap1, SV.int IntKind.i64 last,
                SV.int IntKind.i64 i, SV.raw (u (7 : Nat)), SV.raw (u (8 : Nat)), SV.raw (u (9 : Nat)), SV.raw (u (10 : Nat)), SV.raw (u (11 : Nat)), SV.raw (u (12 : Nat)), SV.raw (u (13 : Nat)),
                SV.raw (u (14 : Nat)), SV.raw (u (15 : Nat)), SV.raw (u (16 : Nat)), SV.raw (u (17 : Nat)), SV.raw (u (18 : Nat)), SV.raw (u (19 : Nat)), SV.int IntKind.i64 i,
                SV.vec (0 : Nat) ao (List.length bs) cap, SV.int IntKind.i64 (↑(List.length bs) : Int), SV.bool true, SV.raw (u (24 : Nat)), SV.raw (u (25 : Nat)),
                SV.vec (0 : Nat) ao (List.length bs) cap, SV.int IntKind.i64 i, SV.eptr (0 : Nat) (Addr.blkD ao) (Addr.offD ao) (1 : Nat) (Int.toNat i) (0 : Nat),
                SV.int IntKind.u8 (List.getD bs (Int.toNat i) (0 : Int)), SV.int IntKind.u8 (Int.tmod (List.getD bs (Int.toNat i) (0 : Int)) (8 : Int)), SV.raw (u (31 : Nat)), SV.raw (u (32 : Nat)),
                SV.raw (u (33 : Nat)), SV.raw (u (34 : Nat)), SV.raw (u (35 : Nat)), SV.raw (u (36 : Nat)), SV.raw (u (37 : Nat)), SV.raw (u (38 : Nat)), SV.bool true,
                SV.bool (Int.tmod (List.getD bs (Int.toNat i) (0 : Int)) (8 : Int) == (0 : Int)), SV.raw (u (41 : Nat)), SV.raw (u (42 : Nat)), SV.raw (u (43 : Nat)), SV.raw (u (44 : Nat)),
                SV.raw (u (45 : Nat)), SV.raw (u (46 : Nat)), SV.raw (u (47 : Nat)), SV.raw (u (48 : Nat)), SV.raw (u (49 : Nat)), SV.raw (u (50 : Nat)), SV.raw (u (51 : Nat)), SV.raw (u (52 : Nat)),
                SV.raw (u (53 : Nat)), SV.raw (u (54 : Nat)), SV.raw (u (55 : Nat)), SV.raw (u (56 : Nat)), SV.raw (u (57 : Nat)), SV.raw (u (58 : Nat)), SV.raw (u (59 : Nat)), SV.raw (u (60 : Nat)),
                SV.raw (u (61 : Nat)), SV.raw (u (62 : Nat)), SV.raw (u (63 : Nat)), SV.raw (u (64 : Nat)), SV.raw (u (65 : Nat)), SV.raw (u (66 : Nat)), SV.raw (u (67 : Nat)), SV.raw (u (68 : Nat)),
                SV.raw (u (69 : Nat)), SV.raw (u (70 : Nat)), SV.raw (u (71 : Nat)), SV.raw (u (72 : Nat)), SV.raw (u (73 : Nat)), SV.raw (u (74 : Nat)), SV.raw (u (75 : Nat)), SV.raw (u (76 : Nat)),
                SV.raw (u (77 : Nat)), SV.raw (u (78 : Nat)), SV.raw (u (79 : Nat)), SV.raw (u (80 : Nat)), SV.raw (u (81 : Nat)), SV.raw (u (82 : Nat)), SV.raw (u (83 : Nat)), SV.raw (u (84 : Nat)),
                SV.raw (u (85 : Nat)), SV.raw (u (86 : Nat)), SV.raw (u (87 : Nat)), SV.raw (u (88 : Nat)), SV.raw (u (89 : Nat)), SV.raw (u (90 : Nat)), SV.raw (u (91 : Nat)), SV.raw (u (92 : Nat)),
                SV.raw (u (93 : Nat)), SV.raw (u (94 : Nat)), SV.raw (u (95 : Nat)), SV.raw (u (96 : Nat)), SV.raw (u (97 : Nat)), SV.raw (u (98 : Nat)), SV.raw (u (99 : Nat)), SV.raw (u (100 : Nat)),
                SV.raw (u (101 : Nat)), SV.raw (u (102 : Nat))]
              [Ent.mk (Loc.sl ao cap) (SObj.roL c0 (1 : Nat) encByte bs (0 : Int)),
                Ent.mk (Loc.blk b1) (SObj.mapV (@none IntKind) [(Key.s (ByteArray.mk #[(115 : UInt8)]), SV.ptr (3 : Nat) b3 (0 : Nat))]),
                Ent.mk (Loc.blk b2) (SObj.cells [SV.map (1 : Nat) b1, SV.raw (Value.slice (@none Addr) (0 : Nat) (0 : Nat)), SV.int IntKind.i64 last] (120 : TypeId)),
                Ent.mk (Loc.blk b3) (SObj.cells [SV.vec (5 : Nat) ao2 (List.length cs) cap2] (125 : TypeId)), Ent.mk (Loc.sl ao1 cap1) (SObj.vecL (3 : TypeId) (1 : Nat) encInt gs (0 : Int)),
                Ent.mk (Loc.sl ao2 cap2) (SObj.vecL (52 : TypeId) (2 : Nat) encDg cs ((0 : Int), ByteArray.empty))])
        | false =>
          match Int.tmod (List.getD bs (Int.toNat i) (0 : Int)) (8 : Int) == (1 : Int) with
          | true =>
            K (frmR [J] (bodyOf Try.f8) (21 : Nat))
              (Sy.mk
                [SV.vec (0 : Nat) ao (List.length bs) cap, SV.raw (u (1 : Nat)), SV.bool false, SV.ptr (2 : Nat) b2 (0 : Nat), SV.vec (4 : Nat) ao1 (List.length gs) cap1, SV.int IntKind.i64 last,
                  SV.int IntKind.i64 i, SV.raw (u (7 : Nat)), SV.raw (u (8 : Nat)), SV.raw (u (9 : Nat)), SV.raw (u (10 : Nat)), SV.raw (u (11 : Nat)), SV.raw (u (12 : Nat)), SV.raw (u (13 : Nat)),
                  SV.raw (u (14 : Nat)), SV.raw (u (15 : Nat)), SV.raw (u (16 : Nat)), SV.raw (u (17 : Nat)), SV.raw (u (18 : Nat)), SV.raw (u (19 : Nat)), SV.int IntKind.i64 i,
                  SV.vec (0 : Nat) ao (List.length bs) cap, SV.int IntKind.i64 (↑(List.length bs) : Int), SV.bool true, SV.raw (u (24 : Nat)), SV.raw (u (25 : Nat)),
                  SV.vec (0 : Nat) ao (List.length bs) cap, SV.int IntKind.i64 i, SV.eptr (0 : Nat) (Addr.blkD ao) (Addr.offD ao) (1 : Nat) (Int.toNat i) (0 : Nat),
                  SV.int IntKind.u8 (List.getD bs (Int.toNat i) (0 : Int)), SV.int IntKind.u8 (Int.tmod (List.getD bs (Int.toNat i) (0 : Int)) (8 : Int)), SV.raw (u (31 : Nat)), SV.raw (u (32 : Nat)),
                  SV.raw (u (33 : Nat)), SV.raw (u (34 : Nat)), SV.raw (u (35 : Nat)), SV.raw (u (36 : Nat)), SV.raw (u (37 : Nat)), SV.raw (u (38 : Nat)), SV.bool true,
                  SV.bool (Int.tmod (List.getD bs (Int.toNat i) (0 : Int)) (8 : Int) == (0 : Int)), SV.bool (Int.tmod (List.getD bs (Int.toNat i) (0 : Int)) (8 : Int) == (1 : Int)),
                  SV.raw (u (42 : Nat)), SV.raw (u (43 : Nat)), SV.raw (u (44 : Nat)), SV.raw (u (45 : Nat)), SV.raw (u (46 : Nat)), SV.raw (u (47 : Nat)), SV.raw (u (48 : Nat)),
                  SV.raw (u (49 : Nat)), SV.raw (u (50 : Nat)), SV.raw (u (51 : Nat)), SV.raw (u (52 : Nat)), SV.raw (u (53 : Nat)), SV.raw (u (54 : Nat)), SV.raw (u (55 : Nat)),
                  SV.raw (u (56 : Nat)), SV.raw (u (57 : Nat)), SV.raw (u (58 : Nat)), SV.raw (u (59 : Nat)), SV.raw (u (60 : Nat)), SV.raw (u (61 : Nat)), SV.raw (u (62 : Nat)),
                  SV.raw (u (63 : Nat)), SV.raw (u (64 : Nat)), SV.raw (u (65 : Nat)), SV.raw (u (66 : Nat)), SV.raw (u (67 : Nat)), SV.raw (u (68 : Nat)), SV.raw (u (69 : Nat)),
                  SV.raw (u (70 : Nat)), SV.raw (u (71 : Nat)), SV.raw (u (72 : Nat)), SV.raw (u (73 : Nat)), SV.raw (u (74 : Nat)), SV.raw (u (75 : Nat)), SV.raw (u (76 : Nat)),
                  SV.raw (u (77 : Nat)), SV.raw (u (78 : Nat)), SV.raw (u (79 : Nat)), SV.raw (u (80 : Nat)), SV.raw (u (81 : Nat)), SV.raw (u (82 : Nat)), SV.raw (u (83 : Nat)),
                  SV.raw (u (84 : Nat)), SV.raw (u (85 : Nat)), SV.raw (u (86 : Nat)), SV.raw (u (87 : Nat)), SV.raw (u (88 : Nat)), SV.raw (u (89 : Nat)), SV.raw (u (90 : Nat)),
                  SV.raw (u (91 : Nat)), SV.raw (u (92 : Nat)), SV.raw (u (93 : Nat)), SV.raw (u (94 : Nat)), SV.raw (u (95 : Nat)), SV.raw (u (96 : Nat)), SV.raw (u (97 : Nat)),
                  SV.raw (u (98 : Nat)), SV.raw (u (99 : Nat)), SV.raw (u (100 : Nat)), SV.raw (u (101 : Nat)), SV.raw (u (102 : Nat))]
                [Ent.mk (Loc.sl ao cap) (SObj.roL c0 (1 : Nat) encByte bs (0 : Int)),
                  Ent.mk (Loc.blk b1) (SObj.mapV (@none IntKind) [(Key.s (ByteArray.mk #[(115 : UInt8)]), SV.ptr (3 : Nat) b3 (0 : Nat))]),
                  Ent.mk (Loc.blk b2) (SObj.cells [SV.map (1 : Nat) b1, SV.raw (Value.slice (@none Addr) (0 : Nat) (0 : Nat)), SV.int IntKind.i64 last] (120 : TypeId)),
                  Ent.mk (Loc.blk b3) (SObj.cells [SV.vec (5 : Nat) ao2 (List.length cs) cap2] (125 : TypeId)), Ent.mk (Loc.sl ao1 cap1) (SObj.vecL (3 : TypeId) (1 : Nat) encInt gs (0 : Int)),
                  Ent.mk (Loc.sl ao2 cap2) (SObj.vecL (52 : TypeId) (2 : Nat) encDg cs ((0 : Int), ByteArray.empty))])
          | false =>
            match Int.tmod (List.getD bs (Int.toNat i) (0 : Int)) (8 : Int) == (2 : Int) with
            | true =>
              K (frmR [J] (bodyOf Try.f8) (21 : Nat))
                (Sy.mk
                  [SV.vec (0 : Nat) ao (List.length bs) cap, SV.raw (u (1 : Nat)), SV.bool false, SV.ptr (2 : Nat) b2 (0 : Nat), SV.vec (4 : Nat) ao1 (List.length gs) cap1, SV.int IntKind.i64 last,
                    SV.int IntKind.i64 i, SV.raw (u (7 : Nat)), SV.raw (u (8 : Nat)), SV.raw (u (9 : Nat)), SV.raw (u (10 : Nat)), SV.raw (u (11 : Nat)), SV.raw (u (12 : Nat)), SV.raw (u (13 : Nat)),
                    SV.raw (u (14 : Nat)), SV.raw (u (15 : Nat)), SV.raw (u (16 : Nat)), SV.raw (u (17 : Nat)), SV.raw (u (18 : Nat)), SV.raw (u (19 : Nat)), SV.int IntKind.i64 i,
                    SV.vec (0 : Nat) ao (List.length bs) cap, SV.int IntKind.i64 (↑(List.length bs) : Int), SV.bool true, SV.raw (u (24 : Nat)), SV.raw (u (25 : Nat)),
                    SV.vec (0 : Nat) ao (List.length bs) cap, SV.int IntKind.i64 i, SV.eptr (0 : Nat) (Addr.blkD ao) (Addr.offD ao) (1 : Nat) (Int.toNat i) (0 : Nat),
                    SV.int IntKind.u8 (List.getD bs (Int.toNat i) (0 : Int)), SV.int IntKind.u8 (Int.tmod (List.getD bs (Int.toNat i) (0 : Int)) (8 : Int)), SV.raw (u (31 : Nat)),
                    SV.raw (u (32 : Nat)), SV.raw (u (33 : Nat)), SV.raw (u (34 : Nat)), SV.raw (u (35 : Nat)), SV.raw (u (36 : Nat)), SV.raw (u (37 : Nat)), SV.raw (u (38 : Nat)), SV.bool true,
                    SV.bool (Int.tmod (List.getD bs (Int.toNat i) (0 : Int)) (8 : Int) == (0 : Int)), SV.bool (Int.tmod (List.getD bs (Int.toNat i) (0 : Int)) (8 : Int) == (1 : Int)),
                    SV.bool (Int.tmod (List.getD bs (Int.toNat i) (0 : Int)) (8 : Int) == (2 : Int)), SV.raw (u (43 : Nat)), SV.raw (u (44 : Nat)), SV.raw (u (45 : Nat)), SV.raw (u (46 : Nat)),
                    SV.raw (u (47 : Nat)), SV.raw (u (48 : Nat)), SV.raw (u (49 : Nat)), SV.raw (u (50 : Nat)), SV.raw (u (51 : Nat)), SV.raw (u (52 : Nat)), SV.raw (u (53 : Nat)),
                    SV.raw (u (54 : Nat)), SV.raw (u (55 : Nat)), SV.raw (u (56 : Nat)), SV.raw (u (57 : Nat)), SV.raw (u (58 : Nat)), SV.raw (u (59 : Nat)), SV.raw (u (60 : Nat)),
                    SV.raw (u (61 : Nat)), SV.raw (u (62 : Nat)), SV.raw (u (63 : Nat)), SV.raw (u (64 : Nat)), SV.raw (u (65 : Nat)), SV.raw (u (66 : Nat)), SV.raw (u (67 : Nat)),
                    SV.raw (u (68 : Nat)), SV.raw (u (69 : Nat)), SV.raw (u (70 : Nat)), SV.raw (u (71 : Nat)), SV.raw (u (72 : Nat)), SV.raw (u (73 : Nat)), SV.raw (u (74 : Nat)),
                    SV.raw (u (75 : Nat)), SV.raw (u (76 : Nat)), SV.raw (u (77 : Nat)), SV.raw (u (78 : Nat)), SV.raw (u (79 : Nat)), SV.raw (u (80 : Nat)), SV.raw (u (81 : Nat)),
                    SV.raw (u (82 : Nat)), SV.raw (u (83 : Nat)), SV.raw (u (84 : Nat)), SV.raw (u (85 : Nat)), SV.raw (u (86 : Nat)), SV.raw (u (87 : Nat)), SV.raw (u (88 : Nat)),
                    SV.raw (u (89 : Nat)), SV.raw (u (90 : Nat)), SV.raw (u (91 : Nat)), SV.raw (u (92 : Nat)), SV.raw (u (93 : Nat)), SV.raw (u (94 : Nat)), SV.raw (u (95 : Nat)),
                    SV.raw (u (96 : Nat)), SV.raw (u (97 : Nat)), SV.raw (u (98 : Nat)), SV.raw (u (99 : Nat)), SV.raw (u (100 : Nat)), SV.raw (u (101 : Nat)), SV.raw (u (102 : Nat))]
                  [Ent.mk (Loc.sl ao cap) (SObj.roL c0 (1 : Nat) encByte bs (0 : Int)),
                    Ent.mk (Loc.blk b1) (SObj.mapV (@none IntKind) [(Key.s (ByteArray.mk #[(115 : UInt8)]), SV.ptr (3 : Nat) b3 (0 : Nat))]),
                    Ent.mk (Loc.blk b2) (SObj.cells [SV.map (1 : Nat) b1, SV.raw (Value.slice (@none Addr) (0 : Nat) (0 : Nat)), SV.int IntKind.i64 last] (120 : TypeId)),
                    Ent.mk (Loc.blk b3) (SObj.cells [SV.vec (5 : Nat) ao2 (List.length cs) cap2] (125 : TypeId)), Ent.mk (Loc.sl ao1 cap1) (SObj.vecL (3 : TypeId) (1 : Nat) encInt gs (0 : Int)),
                    Ent.mk (Loc.sl ao2 cap2) (SObj.vecL (52 : TypeId) (2 : Nat) encDg cs ((0 : Int), ByteArray.empty))])
            | false =>
              match Int.tmod (List.getD bs (Int.toNat i) (0 : Int)) (8 : Int) == (3 : Int) with
              | true =>
                K (frmR [J] (bodyOf Try.f8) (21 : Nat))
                  (Sy.mk
                    [SV.vec (0 : Nat) ao (List.length bs) cap, SV.raw (u (1 : Nat)), SV.bool false, SV.ptr (2 : Nat) b2 (0 : Nat), SV.vec (4 : Nat) ao1 (List.length gs) cap1, SV.int IntKind.i64 last,
                      SV.int IntKind.i64 i, SV.raw (u (7 : Nat)), SV.raw (u (8 : Nat)), SV.raw (u (9 : Nat)), SV.raw (u (10 : Nat)), SV.raw (u (11 : Nat)), SV.raw (u (12 : Nat)),
                      SV.raw (u (13 : Nat)), SV.raw (u (14 : Nat)), SV.raw (u (15 : Nat)), SV.raw (u (16 : Nat)), SV.raw (u (17 : Nat)), SV.raw (u (18 : Nat)), SV.raw (u (19 : Nat)),
                      SV.int IntKind.i64 i, SV.vec (0 : Nat) ao (List.length bs) cap, SV.int IntKind.i64 (↑(List.length bs) : Int), SV.bool true, SV.raw (u (24 : Nat)), SV.raw (u (25 : Nat)),
                      SV.vec (0 : Nat) ao (List.length bs) cap, SV.int IntKind.i64 i, SV.eptr (0 : Nat) (Addr.blkD ao) (Addr.offD ao) (1 : Nat) (Int.toNat i) (0 : Nat),
                      SV.int IntKind.u8 (List.getD bs (Int.toNat i) (0 : Int)), SV.int IntKind.u8 (Int.tmod (List.getD bs (Int.toNat i) (0 : Int)) (8 : Int)), SV.raw (u (31 : Nat)),
                      SV.raw (u (32 : Nat)), SV.raw (u (33 : Nat)), SV.raw (u (34 : Nat)), SV.raw (u (35 : Nat)), SV.raw (u (36 : Nat)), SV.raw (u (37 : Nat)), SV.raw (u (38 : Nat)), SV.bool true,
                      SV.bool (Int.tmod (List.getD bs (Int.toNat i) (0 : Int)) (8 : Int) == (0 : Int)), SV.bool (Int.tmod (List.getD bs (Int.toNat i) (0 : Int)) (8 : Int) == (1 : Int)),
                      SV.bool (Int.tmod (List.getD bs (Int.toNat i) (0 : Int)) (8 : Int) == (2 : Int)), SV.bool (Int.tmod (List.getD bs (Int.toNat i) (0 : Int)) (8 : Int) == (3 : Int)),
                      SV.raw (u (44 : Nat)), SV.raw (u (45 : Nat)), SV.raw (u (46 : Nat)), SV.raw (u (47 : Nat)), SV.raw (u (48 : Nat)), SV.raw (u (49 : Nat)), SV.raw (u (50 : Nat)),
                      SV.raw (u (51 : Nat)), SV.raw (u (52 : Nat)), SV.raw (u (53 : Nat)), SV.raw (u (54 : Nat)), SV.raw (u (55 : Nat)), SV.raw (u (56 : Nat)), SV.raw (u (57 : Nat)),
                      SV.raw (u (58 : Nat)), SV.raw (u (59 : Nat)), SV.raw (u (60 : Nat)), SV.raw (u (61 : Nat)), SV.raw (u (62 : Nat)), SV.raw (u (63 : Nat)), SV.raw (u (64 : Nat)),
                      SV.raw (u (65 : Nat)), SV.raw (u (66 : Nat)), SV.raw (u (67 : Nat)), SV.raw (u (68 : Nat)), SV.raw (u (69 : Nat)), SV.raw (u (70 : Nat)), SV.raw (u (71 : Nat)),
                      SV.raw (u (72 : Nat)), SV.raw (u (73 : Nat)), SV.raw (u (74 : Nat)), SV.raw (u (75 : Nat)), SV.raw (u (76 : Nat)), SV.raw (u (77 : Nat)), SV.raw (u (78 : Nat)),
                      SV.raw (u (79 : Nat)), SV.raw (u (80 : Nat)), SV.raw (u (81 : Nat)), SV.raw (u (82 : Nat)), SV.raw (u (83 : Nat)), SV.raw (u (84 : Nat)), SV.raw (u (85 : Nat)),
                      SV.raw (u (86 : Nat)), SV.raw (u (87 : Nat)), SV.raw (u (88 : Nat)), SV.raw (u (89 : Nat)), SV.raw (u (90 : Nat)), SV.raw (u (91 : Nat)), SV.raw (u (92 : Nat)),
                      SV.raw (u (93 : Nat)), SV.raw (u (94 : Nat)), SV.raw (u (95 : Nat)), SV.raw (u (96 : Nat)), SV.raw (u (97 : Nat)), SV.raw (u (98 : Nat)), SV.raw (u (99 : Nat)),
                      SV.raw (u (100 : Nat)), SV.raw (u (101 : Nat)), SV.raw (u (102 : Nat))]
                    [Ent.mk (Loc.sl ao cap) (SObj.roL c0 (1 : Nat) encByte bs (0 : Int)),
                      Ent.mk (Loc.blk b1) (SObj.mapV (@none IntKind) [(Key.s (ByteArray.mk #[(115 : UInt8)]), SV.ptr (3 : Nat) b3 (0 : Nat))]),
                      Ent.mk (Loc.blk b2) (SObj.cells [SV.map (1 : Nat) b1, SV.raw (Value.slice (@none Addr) (0 : Nat) (0 : Nat)), SV.int IntKind.i64 last] (120 : TypeId)),
                      Ent.mk (Loc.blk b3) (SObj.cells [SV.vec (5 : Nat) ao2 (List.length cs) cap2] (125 : TypeId)), Ent.mk (Loc.sl ao1 cap1) (SObj.vecL (3 : TypeId) (1 : Nat) encInt gs (0 : Int)),
                      Ent.mk (Loc.sl ao2 cap2) (SObj.vecL (52 : TypeId) (2 : Nat) encDg cs ((0 : Int), ByteArray.empty))])
              | false =>
                match Int.tmod (List.getD bs (Int.toNat i) (0 : Int)) (8 : Int) == (4 : Int) with
                | true =>
                  K (frmR [J] (bodyOf Try.f8) (32 : Nat))
                    (Sy.mk
                      [SV.vec (0 : Nat) ao (List.length bs) cap, SV.raw (u (1 : Nat)), SV.bool false, SV.ptr (2 : Nat) b2 (0 : Nat), SV.vec (4 : Nat) ao1 (List.length gs) cap1,
                        SV.int IntKind.i64 last, SV.int IntKind.i64 i, SV.raw (u (7 : Nat)), SV.raw (u (8 : Nat)), SV.raw (u (9 : Nat)), SV.raw (u (10 : Nat)), SV.raw (u (11 : Nat)),
                        SV.raw (u (12 : Nat)), SV.raw (u (13 : Nat)), SV.raw (u (14 : Nat)), SV.raw (u (15 : Nat)), SV.raw (u (16 : Nat)), SV.raw (u (17 : Nat)), SV.raw (u (18 : Nat)),
                        SV.raw (u (19 : Nat)), SV.int IntKind.i64 i, SV.vec (0 : Nat) ao (List.length bs) cap, SV.int IntKind.i64 (↑(List.length bs) : Int), SV.bool true, SV.raw (u (24 : Nat)),
                        SV.raw (u (25 : Nat)), SV.vec (0 : Nat) ao (List.length bs) cap, SV.int IntKind.i64 i, SV.eptr (0 : Nat) (Addr.blkD ao) (Addr.offD ao) (1 : Nat) (Int.toNat i) (0 : Nat),
                        SV.int IntKind.u8 (List.getD bs (Int.toNat i) (0 : Int)), SV.int IntKind.u8 (Int.tmod (List.getD bs (Int.toNat i) (0 : Int)) (8 : Int)), SV.raw (u (31 : Nat)),
                        SV.raw (u (32 : Nat)), SV.raw (u (33 : Nat)), SV.raw (u (34 : Nat)), SV.raw (u (35 : Nat)), SV.raw (u (36 : Nat)), SV.raw (u (37 : Nat)), SV.raw (u (38 : Nat)), SV.bool false,
                        SV.bool (Int.tmod (List.getD bs (Int.toNat i) (0 : Int)) (8 : Int) == (0 : Int)), SV.bool (Int.tmod (List.getD bs (Int.toNat i) (0 : Int)) (8 : Int) == (1 : Int)),
                        SV.bool (Int.tmod (List.getD bs (Int.toNat i) (0 : Int)) (8 : Int) == (2 : Int)), SV.bool (Int.tmod (List.getD bs (Int.toNat i) (0 : Int)) (8 : Int) == (3 : Int)),
                        SV.raw (u (44 : Nat)), SV.raw (u (45 : Nat)), SV.raw (u (46 : Nat)), SV.raw (u (47 : Nat)), SV.raw (u (48 : Nat)), SV.raw (u (49 : Nat)), SV.raw (u (50 : Nat)),
                        SV.raw (u (51 : Nat)), SV.raw (u (52 : Nat)), SV.raw (u (53 : Nat)), SV.raw (u (54 : Nat)), SV.raw (u (55 : Nat)), SV.raw (u (56 : Nat)), SV.raw (u (57 : Nat)),
                        SV.raw (u (58 : Nat)), SV.raw (u (59 : Nat)), SV.raw (u (60 : Nat)), SV.raw (u (61 : Nat)), SV.raw (u (62 : Nat)), SV.raw (u (63 : Nat)), SV.raw (u (64 : Nat)),
                        SV.raw (u (65 : Nat)), SV.raw (u (66 : Nat)), SV.raw (u (67 : Nat)), SV.raw (u (68 : Nat)), SV.raw (u (69 : Nat)), SV.raw (u (70 : Nat)), SV.bool true,
                        SV.bool (Int.tmod (List.getD bs (Int.toNat i) (0 : Int)) (8 : Int) == (4 : Int)), SV.raw (u (73 : Nat)), SV.raw (u (74 : Nat)), SV.raw (u (75 : Nat)), SV.raw (u (76 : Nat)),
                        SV.raw (u (77 : Nat)), SV.raw (u (78 : Nat)), SV.raw (u (79 : Nat)), SV.raw (u (80 : Nat)), SV.raw (u (81 : Nat)), SV.raw (u (82 : Nat)), SV.raw (u (83 : Nat)),
                        SV.raw (u (84 : Nat)), SV.raw (u (85 : Nat)), SV.raw (u (86 : Nat)), SV.raw (u (87 : Nat)), SV.raw (u (88 : Nat)), SV.raw (u (89 : Nat)), SV.raw (u (90 : Nat)),
                        SV.raw (u (91 : Nat)), SV.raw (u (92 : Nat)), SV.raw (u (93 : Nat)), SV.raw (u (94 : Nat)), SV.raw (u (95 : Nat)), SV.raw (u (96 : Nat)), SV.raw (u (97 : Nat)),
                        SV.raw (u (98 : Nat)), SV.raw (u (99 : Nat)), SV.raw (u (100 : Nat)), SV.raw (u (101 : Nat)), SV.raw (u (102 : Nat))]
                      [Ent.mk (Loc.sl ao cap) (SObj.roL c0 (1 : Nat) encByte bs (0 : Int)),
                        Ent.mk (Loc.blk b1) (SObj.mapV (@none IntKind) [(Key.s (ByteArray.mk #[(115 : UInt8)]), SV.ptr (3 : Nat) b3 (0 : Nat))]),
                        Ent.mk (Loc.blk b2) (SObj.cells [SV.map (1 : Nat) b1, SV.raw (Value.slice (@none Addr) (0 : Nat) (0 : Nat)), SV.int IntKind.i64 last] (120 : TypeId)),
                        Ent.mk (Loc.blk b3) (SObj.cells [SV.vec (5 : Nat) ao2 (List.length cs) cap2] (125 : TypeId)), Ent.mk (Loc.sl ao1 cap1) (SObj.vecL (3 : TypeId) (1 : Nat) encInt gs (0 : Int)),
                        Ent.mk (Loc.sl ao2 cap2) (SObj.vecL (52 : TypeId) (2 : Nat) encDg cs ((0 : Int), ByteArray.empty))])
                | false =>
                  match Int.tmod (List.getD bs (Int.toNat i) (0 : Int)) (8 : Int) == (5 : Int) with
                  | true =>
                    K (frmR [J] (bodyOf Try.f8) (32 : Nat))
                      (Sy.mk
                        [SV.vec (0 : Nat) ao (List.length bs) cap, SV.raw (u (1 : Nat)), SV.bool false, SV.ptr (2 : Nat) b2 (0 : Nat), SV.vec (4 : Nat) ao1 (List.length gs) cap1,
                          SV.int IntKind.i64 last, SV.int IntKind.i64 i, SV.raw (u (7 : Nat)), SV.raw (u (8 : Nat)), SV.raw (u (9 : Nat)), SV.raw (u (10 : Nat)), SV.raw (u (11 : Nat)),
                          SV.raw (u (12 : Nat)), SV.raw (u (13 : Nat)), SV.raw (u (14 : Nat)), SV.raw (u (15 : Nat)), SV.raw (u (16 : Nat)), SV.raw (u (17 : Nat)), SV.raw (u (18 : Nat)),
                          SV.raw (u (19 : Nat)), SV.int IntKind.i64 i, SV.vec (0 : Nat) ao (List.length bs) cap, SV.int IntKind.i64 (↑(List.length bs) : Int), SV.bool true, SV.raw (u (24 : Nat)),
                          SV.raw (u (25 : Nat)), SV.vec (0 : Nat) ao (List.length bs) cap, SV.int IntKind.i64 i, SV.eptr (0 : Nat) (Addr.blkD ao) (Addr.offD ao) (1 : Nat) (Int.toNat i) (0 : Nat),
                          SV.int IntKind.u8 (List.getD bs (Int.toNat i) (0 : Int)), SV.int IntKind.u8 (Int.tmod (List.getD bs (Int.toNat i) (0 : Int)) (8 : Int)), SV.raw (u (31 : Nat)),
                          SV.raw (u (32 : Nat)), SV.raw (u (33 : Nat)), SV.raw (u (34 : Nat)), SV.raw (u (35 : Nat)), SV.raw (u (36 : Nat)), SV.raw (u (37 : Nat)), SV.raw (u (38 : Nat)),
                          SV.bool false, SV.bool (Int.tmod (List.getD bs (Int.toNat i) (0 : Int)) (8 : Int) == (0 : Int)),
                          SV.bool (Int.tmod (List.getD bs (Int.toNat i) (0 : Int)) (8 : Int) == (1 : Int)), SV.bool (Int.tmod (List.getD bs (Int.toNat i) (0 : Int)) (8 : Int) == (2 : Int)),
                          SV.bool (Int.tmod (List.getD bs (Int.toNat i) (0 : Int)) (8 : Int) == (3 : Int)), SV.raw (u (44 : Nat)), SV.raw (u (45 : Nat)), SV.raw (u (46 : Nat)), SV.raw (u (47 : Nat)),
                          SV.raw (u (48 : Nat)), SV.raw (u (49 : Nat)), SV.raw (u (50 : Nat)), SV.raw (u (51 : Nat)), SV.raw (u (52 : Nat)), SV.raw (u (53 : Nat)), SV.raw (u (54 : Nat)),
                          SV.raw (u (55 : Nat)), SV.raw (u (56 : Nat)), SV.raw (u (57 : Nat)), SV.raw (u (58 : Nat)), SV.raw (u (59 : Nat)), SV.raw (u (60 : Nat)), SV.raw (u (61 : Nat)),
                          SV.raw (u (62 : Nat)), SV.raw (u (63 : Nat)), SV.raw (u (64 : Nat)), SV.raw (u (65 : Nat)), SV.raw (u (66 : Nat)), SV.raw (u (67 : Nat)), SV.raw (u (68 : Nat)),
                          SV.raw (u (69 : Nat)), SV.raw (u (70 : Nat)), SV.bool true, SV.bool (Int.tmod (List.getD bs (Int.toNat i) (0 : Int)) (8 : Int) == (4 : Int)),
                          SV.bool (Int.tmod (List.getD bs (Int.toNat i) (0 : Int)) (8 : Int) == (5 : Int)), SV.raw (u (74 : Nat)), SV.raw (u (75 : Nat)), SV.raw (u (76 : Nat)), SV.raw (u (77 : Nat)),
                          SV.raw (u (78 : Nat)), SV.raw (u (79 : Nat)), SV.raw (u (80 : Nat)), SV.raw (u (81 : Nat)), SV.raw (u (82 : Nat)), SV.raw (u (83 : Nat)), SV.raw (u (84 : Nat)),
                          SV.raw (u (85 : Nat)), SV.raw (u (86 : Nat)), SV.raw (u (87 : Nat)), SV.raw (u (88 : Nat)), SV.raw (u (89 : Nat)), SV.raw (u (90 : Nat)), SV.raw (u (91 : Nat)),
                          SV.raw (u (92 : Nat)), SV.raw (u (93 : Nat)), SV.raw (u (94 : Nat)), SV.raw (u (95 : Nat)), SV.raw (u (96 : Nat)), SV.raw (u (97 : Nat)), SV.raw (u (98 : Nat)),
                          SV.raw (u (99 : Nat)), SV.raw (u (100 : Nat)), SV.raw (u (101 : Nat)), SV.raw (u (102 : Nat))]
                        [Ent.mk (Loc.sl ao cap) (SObj.roL c0 (1 : Nat) encByte bs (0 : Int)),
                          Ent.mk (Loc.blk b1) (SObj.mapV (@none IntKind) [(Key.s (ByteArray.mk #[(115 : UInt8)]), SV.ptr (3 : Nat) b3 (0 : Nat))]),
                          Ent.mk (Loc.blk b2) (SObj.cells [SV.map (1 : Nat) b1, SV.raw (Value.slice (@none Addr) (0 : Nat) (0 : Nat)), SV.int IntKind.i64 last] (120 : TypeId)),
                          Ent.mk (Loc.blk b3) (SObj.cells [SV.vec (5 : Nat) ao2 (List.length cs) cap2] (125 : TypeId)), Ent.mk (Loc.sl ao1 cap1) (SObj.vecL (3 : TypeId) (1 : Nat) encInt gs (0 : Int)),
                          Ent.mk (Loc.sl ao2 cap2) (SObj.vecL (52 : TypeId) (2 : Nat) encDg cs ((0 : Int), ByteArray.empty))])
                  | false =>
                    match Int.tmod (List.getD bs (Int.toNat i) (0 : Int)) (8 : Int) == (6 : Int) with
                    | true =>
                      K (frmR [J] (bodyOf Try.f8) (32 : Nat))
                        (Sy.mk
                          [SV.vec (0 : Nat) ao (List.length bs) cap, SV.raw (u (1 : Nat)), SV.bool false, SV.ptr (2 : Nat) b2 (0 : Nat), SV.vec (4 : Nat) ao1 (List.length gs) cap1,
                            SV.int IntKind.i64 last, SV.int IntKind.i64 i, SV.raw (u (7 : Nat)), SV.raw (u (8 : Nat)), SV.raw (u (9 : Nat)), SV.raw (u (10 : Nat)), SV.raw (u (11 : Nat)),
                            SV.raw (u (12 : Nat)), SV.raw (u (13 : Nat)), SV.raw (u (14 : Nat)), SV.raw (u (15 : Nat)), SV.raw (u (16 : Nat)), SV.raw (u (17 : Nat)), SV.raw (u (18 : Nat)),
                            SV.raw (u (19 : Nat)), SV.int IntKind.i64 i, SV.vec (0 : Nat) ao (List.length bs) cap, SV.int IntKind.i64 (↑(List.length bs) : Int), SV.bool true, SV.raw (u (24 : Nat)),
                            SV.raw (u (25 : Nat)), SV.vec (0 : Nat) ao (List.length bs) cap, SV.int IntKind.i64 i, SV.eptr (0 : Nat) (Addr.blkD ao) (Addr.offD ao) (1 : Nat) (Int.toNat i) (0 : Nat),
                            SV.int IntKind.u8 (List.getD bs (Int.toNat i) (0 : Int)), SV.int IntKind.u8 (Int.tmod (List.getD bs (Int.toNat i) (0 : Int)) (8 : Int)), SV.raw (u (31 : Nat)),
                            SV.raw (u (32 : Nat)), SV.raw (u (33 : Nat)), SV.raw (u (34 : Nat)), SV.raw (u (35 : Nat)), SV.raw (u (36 : Nat)), SV.raw (u (37 : Nat)), SV.raw (u (38 : Nat)),
                            SV.bool false, SV.bool (Int.tmod (List.getD bs (Int.toNat i) (0 : Int)) (8 : Int) == (0 : Int)),
                            SV.bool (Int.tmod (List.getD bs (Int.toNat i) (0 : Int)) (8 : Int) == (1 : Int)), SV.bool (Int.tmod (List.getD bs (Int.toNat i) (0 : Int)) (8 : Int) == (2 : Int)),
                            SV.bool (Int.tmod (List.getD bs (Int.toNat i) (0 : Int)) (8 : Int) == (3 : Int)), SV.raw (u (44 : Nat)), SV.raw (u (45 : Nat)), SV.raw (u (46 : Nat)),
                            SV.raw (u (47 : Nat)), SV.raw (u (48 : Nat)), SV.raw (u (49 : Nat)), SV.raw (u (50 : Nat)), SV.raw (u (51 : Nat)), SV.raw (u (52 : Nat)), SV.raw (u (53 : Nat)),
                            SV.raw (u (54 : Nat)), SV.raw (u (55 : Nat)), SV.raw (u (56 : Nat)), SV.raw (u (57 : Nat)), SV.raw (u (58 : Nat)), SV.raw (u (59 : Nat)), SV.raw (u (60 : Nat)),
                            SV.raw (u (61 : Nat)), SV.raw (u (62 : Nat)), SV.raw (u (63 : Nat)), SV.raw (u (64 : Nat)), SV.raw (u (65 : Nat)), SV.raw (u (66 : Nat)), SV.raw (u (67 : Nat)),
                            SV.raw (u (68 : Nat)), SV.raw (u (69 : Nat)), SV.raw (u (70 : Nat)), SV.bool true, SV.bool (Int.tmod (List.getD bs (Int.toNat i) (0 : Int)) (8 : Int) == (4 : Int)),
                            SV.bool (Int.tmod (List.getD bs (Int.toNat i) (0 : Int)) (8 : Int) == (5 : Int)), SV.bool (Int.tmod (List.getD bs (Int.toNat i) (0 : Int)) (8 : Int) == (6 : Int)),
                            SV.raw (u (75 : Nat)), SV.raw (u (76 : Nat)), SV.raw (u (77 : Nat)), SV.raw (u (78 : Nat)), SV.raw (u (79 : Nat)), SV.raw (u (80 : Nat)), SV.raw (u (81 : Nat)),
                            SV.raw (u (82 : Nat)), SV.raw (u (83 : Nat)), SV.raw (u (84 : Nat)), SV.raw (u (85 : Nat)), SV.raw (u (86 : Nat)), SV.raw (u (87 : Nat)), SV.raw (u (88 : Nat)),
                            SV.raw (u (89 : Nat)), SV.raw (u (90 : Nat)), SV.raw (u (91 : Nat)), SV.raw (u (92 : Nat)), SV.raw (u (93 : Nat)), SV.raw (u (94 : Nat)), SV.raw (u (95 : Nat)),
                            SV.raw (u (96 : Nat)), SV.raw (u (97 : Nat)), SV.raw (u (98 : Nat)), SV.raw (u (99 : Nat)), SV.raw (u (100 : Nat)), SV.raw (u (101 : Nat)), SV.raw (u (102 : Nat))]
                          [Ent.mk (Loc.sl ao cap) (SObj.roL c0 (1 : Nat) encByte bs (0 : Int)),
                            Ent.mk (Loc.blk b1) (SObj.mapV (@none IntKind) [(Key.s (ByteArray.mk #[(115 : UInt8)]), SV.ptr (3 : Nat) b3 (0 : Nat))]),
                            Ent.mk (Loc.blk b2) (SObj.cells [SV.map (1 : Nat) b1, SV.raw (Value.slice (@none Addr) (0 : Nat) (0 : Nat)), SV.int IntKind.i64 last] (120 : TypeId)),
                            Ent.mk (Loc.blk b3) (SObj.cells [SV.vec (5 : Nat) ao2 (List.length cs) cap2] (125 : TypeId)),
                            Ent.mk (Loc.sl ao1 cap1) (SObj.vecL (3 : TypeId) (1 : Nat) encInt gs (0 : Int)),
                            Ent.mk (Loc.sl ao2 cap2) (SObj.vecL (52 : TypeId) (2 : Nat) encDg cs ((0 : Int), ByteArray.empty))])
                    | false =>
                      K (frmR [J] (bodyOf Try.f8) (14 : Nat))
                        (Sy.mk
                          [SV.vec (0 : Nat) ao (List.length bs) cap, SV.raw (u (1 : Nat)), SV.bool false, SV.ptr (2 : Nat) b2 (0 : Nat), SV.vec (4 : Nat) ao1 (List.length gs) cap1,
                            SV.int IntKind.i64 last, SV.int IntKind.i64 i, SV.raw (u (7 : Nat)), SV.raw (u (8 : Nat)), SV.raw (u (9 : Nat)), SV.raw (u (10 : Nat)), SV.raw (u (11 : Nat)),
                            SV.raw (u (12 : Nat)), SV.raw (u (13 : Nat)), SV.raw (u (14 : Nat)), SV.raw (u (15 : Nat)), SV.raw (u (16 : Nat)), SV.raw (u (17 : Nat)), SV.raw (u (18 : Nat)),
                            SV.raw (u (19 : Nat)), SV.int IntKind.i64 i, SV.vec (0 : Nat) ao (List.length bs) cap, SV.int IntKind.i64 (↑(List.length bs) : Int), SV.bool true, SV.raw (u (24 : Nat)),
                            SV.raw (u (25 : Nat)), SV.vec (0 : Nat) ao (List.length bs) cap, SV.int IntKind.i64 i, SV.eptr (0 : Nat) (Addr.blkD ao) (Addr.offD ao) (1 : Nat) (Int.toNat i) (0 : Nat),
                            SV.int IntKind.u8 (List.getD bs (Int.toNat i) (0 : Int)), SV.int IntKind.u8 (Int.tmod (List.getD bs (Int.toNat i) (0 : Int)) (8 : Int)), SV.raw (u (31 : Nat)),
                            SV.raw (u (32 : Nat)), SV.raw (u (33 : Nat)), SV.raw (u (34 : Nat)), SV.raw (u (35 : Nat)), SV.raw (u (36 : Nat)), SV.raw (u (37 : Nat)), SV.raw (u (38 : Nat)),
                            SV.bool false, SV.bool (Int.tmod (List.getD bs (Int.toNat i) (0 : Int)) (8 : Int) == (0 : Int)),
                            SV.bool (Int.tmod (List.getD bs (Int.toNat i) (0 : Int)) (8 : Int) == (1 : Int)), SV.bool (Int.tmod (List.getD bs (Int.toNat i) (0 : Int)) (8 : Int) == (2 : Int)),
                            SV.bool (Int.tmod (List.getD bs (Int.toNat i) (0 : Int)) (8 : Int) == (3 : Int)), SV.raw (u (44 : Nat)), SV.raw (u (45 : Nat)), SV.raw (u (46 : Nat)),
                            SV.raw (u (47 : Nat)), SV.raw (u (48 : Nat)), SV.raw (u (49 : Nat)), SV.raw (u (50 : Nat)), SV.raw (u (51 : Nat)), SV.raw (u (52 : Nat)), SV.raw (u (53 : Nat)),
                            SV.raw (u (54 : Nat)), SV.raw (u (55 : Nat)), SV.raw (u (56 : Nat)), SV.raw (u (57 : Nat)), SV.raw (u (58 : Nat)), SV.raw (u (59 : Nat)), SV.raw (u (60 : Nat)),
                            SV.raw (u (61 : Nat)), SV.raw (u (62 : Nat)), SV.raw (u (63 : Nat)), SV.raw (u (64 : Nat)), SV.raw (u (65 : Nat)), SV.raw (u (66 : Nat)), SV.raw (u (67 : Nat)),
                            SV.raw (u (68 : Nat)), SV.raw (u (69 : Nat)), SV.raw (u (70 : Nat)), SV.bool false, SV.bool (Int.tmod (List.getD bs (Int.toNat i) (0 : Int)) (8 : Int) == (4 : Int)),
                            SV.bool (Int.tmod (List.getD bs (Int.toNat i) (0 : Int)) (8 : Int) == (5 : Int)), SV.bool (Int.tmod (List.getD bs (Int.toNat i) (0 : Int)) (8 : Int) == (6 : Int)),
                            SV.raw (u (75 : Nat)), SV.raw (u (76 : Nat)), SV.raw (u (77 : Nat)), SV.raw (u (78 : Nat)), SV.raw (u (79 : Nat)), SV.raw (u (80 : Nat)), SV.raw (u (81 : Nat)),
                            SV.raw (u (82 : Nat)), SV.raw (u (83 : Nat)), SV.raw (u (84 : Nat)), SV.raw (u (85 : Nat)), SV.raw (u (86 : Nat)), SV.raw (u (87 : Nat)), SV.raw (u (88 : Nat)),
                            SV.raw (u (89 : Nat)), SV.raw (u (90 : Nat)), SV.raw (u (91 : Nat)), SV.raw (u (92 : Nat)), SV.raw (u (93 : Nat)), SV.raw (u (94 : Nat)), SV.raw (u (95 : Nat)),
                            SV.raw (u (96 : Nat)), SV.raw (u (97 : Nat)), SV.raw (u (98 : Nat)), SV.raw (u (99 : Nat)), SV.raw (u (100 : Nat)), SV.raw (u (101 : Nat)), SV.raw (u (102 : Nat))]
                          [Ent.mk (Loc.sl ao cap) (SObj.roL c0 (1 : Nat) encByte bs (0 : Int)),
                            Ent.mk (Loc.blk b1) (SObj.mapV (@none IntKind) [(Key.s (ByteArray.mk #[(115 : UInt8)]), SV.ptr (3 : Nat) b3 (0 : Nat))]),
                            Ent.mk (Loc.blk b2) (SObj.cells [SV.map (1 : Nat) b1, SV.raw (Value.slice (@none Addr) (0 : Nat) (0 : Nat)), SV.int IntKind.i64 last] (120 : TypeId)),
                            Ent.mk (Loc.blk b3) (SObj.cells [SV.vec (5 : Nat) ao2 (List.length cs) cap2] (125 : TypeId)),
                            Ent.mk (Loc.sl ao1 cap1) (SObj.vecL (3 : TypeId) (1 : Nat) encInt gs (0 : Int)),
                            Ent.mk (Loc.sl ao2 cap2) (SObj.vecL (52 : TypeId) (2 : Nat) encDg cs ((0 : Int), ByteArray.empty))])
| false =>
  N
    [Ent.mk (Loc.sl ao cap) (SObj.roL c0 (1 : Nat) encByte bs (0 : Int)), Ent.mk (Loc.blk b1) (SObj.mapV (@none IntKind) [(Key.s (ByteArray.mk #[(115 : UInt8)]), SV.ptr (3 : Nat) b3 (0 : Nat))]),
      Ent.mk (Loc.blk b2) (SObj.cells [SV.map (1 : Nat) b1, SV.raw (Value.slice (@none Addr) (0 : Nat) (0 : Nat)), SV.int IntKind.i64 last] (120 : TypeId)),
      Ent.mk (Loc.blk b3) (SObj.cells [SV.vec (5 : Nat) ao2 (List.length cs) cap2] (125 : TypeId)), Ent.mk (Loc.sl ao1 cap1) (SObj.vecL (3 : TypeId) (1 : Nat) encInt gs (0 : Int)),
      Ent.mk (Loc.sl ao2 cap2) (SObj.vecL (52 : TypeId) (2 : Nat) encDg cs ((0 : Int), ByteArray.empty))]
    (SV.bool true)) := by kernel_rfl

theorem po_conn (K : List Frm → Sy → Prop) (N : List Ent → SV → Prop) (J : Act → World → Prop) (u : Nat → Value) (c0 : Ch) (cap cap1 cap2 b1 b2 b3 : Nat) (ao ao1 ao2 : Option Addr) (bs gs : List Int) (cs : List (Int × ByteArray)) (i last : Int) : (run Try.prog port4 false [39] K (retP Try.prog Try.f8.results.toList N) 900 (frmR [J] (bodyOf Try.f8) 21) ⟨mkT u 103 0 (poLive ao bs cap b2 gs ao1 cap1 last i), poHeap c0 ao bs cap b1 b2 b3 gs ao1 cap1 cs ao2 cap2 last⟩) = (
true = true ∧
  b2 = b2 ∧
    (b1 = b1 ∧ @none IntKind = @none IntKind ∧ @none IntKind = @none IntKind) ∧
      b2 = b2 ∧
        (true = true ∧ true = true) ∧
          true = true ∧
            true = true ∧
              ∀ (b : Nat),
                b3 = b3 ∧
                  match decide ((↑(List.length cs) : Int) ≥ (16 : Int)) with
                  | true =>
                    match decide ((↑(List.length gs) : Int) ≥ (16 : Int)) with
                    | true =>
                      K (Frm.loop J :: Frm.blk (0 : Nat) :: frm [] (bodyOf Try.f8) [(1 : Nat), (1 : Nat), (1 : Nat), (1 : Nat), (1 : Nat), (1 : Nat), (1 : Nat), (1 : Nat)] [])
                        (Sy.mk
                          [SV.vec (0 : Nat) ao (List.length bs) cap, SV.raw (u (1 : Nat)), SV.bool false, SV.ptr (2 : Nat) b2 (0 : Nat), SV.vec (4 : Nat) ao1 (List.length gs) cap1,
                            SV.int IntKind.i64 last, SV.int IntKind.i64 (IntKind.wrap IntKind.i64 (i + (1 : Int))), SV.int IntKind.i64 (0 : Int), SV.int IntKind.i64 (102 : Int), SV.raw (u (9 : Nat)),
                            SV.raw (u (10 : Nat)), SV.raw (u (11 : Nat)), SV.raw (u (12 : Nat)), SV.raw (u (13 : Nat)), SV.raw (u (14 : Nat)), SV.raw (u (15 : Nat)), SV.raw (u (16 : Nat)),
                            SV.raw (u (17 : Nat)), SV.raw (u (18 : Nat)), SV.raw (u (19 : Nat)), SV.raw (u (20 : Nat)), SV.raw (u (21 : Nat)), SV.raw (u (22 : Nat)), SV.raw (u (23 : Nat)),
                            SV.int IntKind.i64 i, SV.int IntKind.i64 (IntKind.wrap IntKind.i64 (i + (1 : Int))), SV.raw (u (26 : Nat)), SV.raw (u (27 : Nat)), SV.raw (u (28 : Nat)),
                            SV.raw (u (29 : Nat)), SV.raw (u (30 : Nat)), SV.raw (u (31 : Nat)), SV.raw (u (32 : Nat)), SV.raw (u (33 : Nat)), SV.raw (u (34 : Nat)), SV.raw (u (35 : Nat)),
                            SV.raw (u (36 : Nat)), SV.raw (u (37 : Nat)), SV.raw (u (38 : Nat)), SV.raw (u (39 : Nat)), SV.raw (u (40 : Nat)), SV.raw (u (41 : Nat)), SV.raw (u (42 : Nat)),
                            SV.raw (u (43 : Nat)), SV.tuple [SV.int IntKind.i64 (0 : Int), SV.int IntKind.i64 (102 : Int)], SV.ptr (2 : Nat) b2 (0 : Nat),
                            SV.tuple [SV.int IntKind.i64 (0 : Int), SV.int IntKind.i64 (102 : Int)], SV.int IntKind.i64 (0 : Int), SV.int IntKind.i64 (102 : Int),
                            SV.vec (4 : Nat) ao1 (List.length gs) cap1, SV.int IntKind.i64 (↑(List.length gs) : Int), SV.bool true, SV.int IntKind.i64 (102 : Int), SV.bool false, SV.bool false,
                            SV.int IntKind.i64 (0 : Int), SV.bool false, SV.bool false, SV.raw (u (58 : Nat)), SV.raw (u (59 : Nat)), SV.raw (u (60 : Nat)), SV.raw (u (61 : Nat)),
                            SV.raw (u (62 : Nat)), SV.raw (u (63 : Nat)), SV.raw (u (64 : Nat)), SV.raw (u (65 : Nat)), SV.raw (u (66 : Nat)), SV.raw (u (67 : Nat)), SV.raw (u (68 : Nat)),
                            SV.raw (u (69 : Nat)), SV.raw (u (70 : Nat)), SV.raw (u (71 : Nat)), SV.raw (u (72 : Nat)), SV.raw (u (73 : Nat)), SV.raw (u (74 : Nat)), SV.raw (u (75 : Nat)),
                            SV.raw (u (76 : Nat)), SV.raw (u (77 : Nat)), SV.raw (u (78 : Nat)), SV.raw (u (79 : Nat)), SV.raw (u (80 : Nat)), SV.raw (u (81 : Nat)), SV.raw (u (82 : Nat)),
                            SV.raw (u (83 : Nat)), SV.raw (u (84 : Nat)), SV.raw (u (85 : Nat)), SV.raw (u (86 : Nat)), SV.raw (u (87 : Nat)), SV.raw (u (88 : Nat)), SV.raw (u (89 : Nat)),
                            SV.raw (u (90 : Nat)), SV.raw (u (91 : Nat)), SV.raw (u (92 : Nat)), SV.raw (u (93 : Nat)), SV.raw (u (94 : Nat)), SV.raw (u (95 : Nat)), SV.raw (u (96 : Nat)),
                            SV.raw (u (97 : Nat)), SV.raw (u (98 : Nat)), SV.raw (u (99 : Nat)), SV.raw (u (100 : Nat)), SV.raw (u (101 : Nat)), SV.raw (u (102 : Nat))]
                          [Ent.mk (Loc.sl ao cap) (SObj.roL c0 (1 : Nat) encByte bs (0 : Int)),
                            Ent.mk (Loc.blk b1) (SObj.mapV (@none IntKind) [(Key.s (ByteArray.mk #[(115 : UInt8)]), SV.ptr (3 : Nat) b3 (0 : Nat))]),
                            Ent.mk (Loc.blk b2) (SObj.cells [SV.map (1 : Nat) b1, SV.raw (Value.slice (@none Addr) (0 : Nat) (0 : Nat)), SV.int IntKind.i64 last] (120 : TypeId)),
                            Ent.mk (Loc.blk b3) (SObj.cells [SV.vec (5 : Nat) ao2 (List.length cs) cap2] (125 : TypeId)),
                            Ent.mk (Loc.sl ao1 cap1) (SObj.vecL (3 : TypeId) (1 : Nat) encInt gs (0 : Int)),
                            Ent.mk (Loc.sl ao2 cap2) (SObj.vecL (52 : TypeId) (2 : Nat) encDg cs ((0 : Int), ByteArray.empty)),
                            Ent.mk (Loc.blk b) (SObj.cells [SV.int IntKind.i64 (IntKind.wrap IntKind.i64 (last + (1 : Int))), SV.str (ByteArray.mk #[(116 : UInt8)])] (52 : Nat))])
                    | false =>
                      N
                        [Ent.mk (Loc.sl ao cap) (SObj.roL c0 (1 : Nat) encByte bs (0 : Int)),
                          Ent.mk (Loc.blk b1) (SObj.mapV (@none IntKind) [(Key.s (ByteArray.mk #[(115 : UInt8)]), SV.ptr (3 : Nat) b3 (0 : Nat))]),
                          Ent.mk (Loc.blk b2) (SObj.cells [SV.map (1 : Nat) b1, SV.raw (Value.slice (@none Addr) (0 : Nat) (0 : Nat)), SV.int IntKind.i64 last] (120 : TypeId)),
                          Ent.mk (Loc.blk b3) (SObj.cells [SV.vec (5 : Nat) ao2 (List.length cs) cap2] (125 : TypeId)), Ent.mk (Loc.sl ao1 cap1) (SObj.vecL (3 : TypeId) (1 : Nat) encInt gs (0 : Int)),
                          Ent.mk (Loc.sl ao2 cap2) (SObj.vecL (52 : TypeId) (2 : Nat) encDg cs ((0 : Int), ByteArray.empty)),
                          Ent.mk (Loc.blk b) (SObj.cells [SV.int IntKind.i64 (IntKind.wrap IntKind.i64 (last + (1 : Int))), SV.str (ByteArray.mk #[(116 : UInt8)])] (52 : Nat))]
                        (SV.bool false)
                  | false =>
                    b3 = b3 ∧
                      (b = b ∧ (2 : Nat) = (2 : Nat)) ∧
                        (true = true ∧ (2 : Nat) = (2 : Nat) ∧ (0 : Nat) < (2 : Nat) ∧ (2 : Nat) ≤ (16777216 : Nat)) ∧
                          ∀ (b_1 : Nat),
                            (Ent.mk (Loc.sl ao cap) (SObj.roL c0 (1 : Nat) encByte bs (0 : Int)) = Ent.mk (Loc.sl ao cap) (SObj.roL c0 (1 : Nat) encByte bs (0 : Int)) ∧
                                Ent.mk (Loc.blk b1) (SObj.mapV (@none IntKind) [(Key.s (ByteArray.mk #[(115 : UInt8)]), SV.ptr (3 : Nat) b3 (0 : Nat))]) =
                                    Ent.mk (Loc.blk b1) (SObj.mapV (@none IntKind) [(Key.s (ByteArray.mk #[(115 : UInt8)]), SV.ptr (3 : Nat) b3 (0 : Nat))]) ∧
                                  Ent.mk (Loc.blk b2) (SObj.cells [SV.map (1 : Nat) b1, SV.raw (Value.slice (@none Addr) (0 : Nat) (0 : Nat)), SV.int IntKind.i64 last] (120 : TypeId)) =
                                      Ent.mk (Loc.blk b2) (SObj.cells [SV.map (1 : Nat) b1, SV.raw (Value.slice (@none Addr) (0 : Nat) (0 : Nat)), SV.int IntKind.i64 last] (120 : TypeId)) ∧
                                    Ent.mk (Loc.blk b3) (SObj.cells [SV.vec (5 : Nat) ao2 (List.length cs) cap2] (125 : TypeId)) =
                                        Ent.mk (Loc.blk b3) (SObj.cells [SV.vec (5 : Nat) ao2 (List.length cs) cap2] (125 : TypeId)) ∧
                                      Ent.mk (Loc.sl ao1 cap1) (SObj.vecL (3 : TypeId) (1 : Nat) encInt gs (0 : Int)) =
                                          Ent.mk (Loc.sl ao1 cap1) (SObj.vecL (3 : TypeId) (1 : Nat) encInt gs (0 : Int)) ∧
                                        Ent.mk (Loc.sl ao2 cap2) (SObj.vecL (52 : TypeId) (2 : Nat) encDg cs ((0 : Int), ByteArray.empty)) =
                                            Ent.mk (Loc.sl ao2 cap2) (SObj.vecL (52 : TypeId) (2 : Nat) encDg cs ((0 : Int), ByteArray.empty)) ∧
                                          Ent.mk (Loc.blk b) (SObj.cells [SV.int IntKind.i64 (IntKind.wrap IntKind.i64 (last + (1 : Int))), SV.str (ByteArray.mk #[(116 : UInt8)])] (52 : Nat)) =
                                              Ent.mk (Loc.blk b) (SObj.cells [SV.int IntKind.i64 (IntKind.wrap IntKind.i64 (last + (1 : Int))), SV.str (ByteArray.mk #[(116 : UInt8)])] (52 : Nat)) ∧
                                            True) ∧
                              (ao2 = ao2 ∧
                                  cap2 = cap2 ∧
                                    List.length cs = List.length cs ∧
                                      some (Addr.mk b_1 (0 : Nat) (@none Nat)) = some (Addr.mk b_1 (0 : Nat) (@none Nat)) ∧
                                        (52 : TypeId) = (52 : Nat) ∧
                                          (2 : Nat) = (2 : Nat) ∧
                                            (2 : Nat) = (2 : Nat) ∧
                                              (0 : Nat) < (1 : Nat) ∧
                                                true = true ∧ (List.length cs + (1 : Nat)) * (24 : Nat) ≤ (140737488355328 : Nat) ∧ List.length cs + (1 : Nat) ≤ (9223372036854775807 : Nat)) ∧
                                ∃ (es : List (Int × ByteArray)),
                                  List.length es = (1 : Nat) ∧
                                    List.flatMap encDg es = [SV.int IntKind.i64 (IntKind.wrap IntKind.i64 (last + (1 : Int))), SV.str (ByteArray.mk #[(116 : UInt8)])] ∧
                                      ∀ (ao2 : Option Addr) (cap2 : Nat),
                                        List.length cs + (1 : Nat) ≤ cap2 →
                                          (b3 = b3 ∧ true = true ∧ (1 : Nat) = (1 : Nat) ∧ (1 : Nat) ≤ (1 : Nat)) ∧
                                            b2 = b2 ∧
                                              (b2 = b2 ∧ true = true ∧ (1 : Nat) = (1 : Nat) ∧ (3 : Nat) ≤ (3 : Nat)) ∧
                                                b2 = b2 ∧
                                                  match decide ((↑(List.length gs) : Int) ≥ (16 : Int)) with
                                                  | true =>
                                                    N
                                                      [Ent.mk (Loc.sl ao cap) (SObj.roL c0 (1 : Nat) encByte bs (0 : Int)),
                                                        Ent.mk (Loc.blk b1) (SObj.mapV (@none IntKind) [(Key.s (ByteArray.mk #[(115 : UInt8)]), SV.ptr (3 : Nat) b3 (0 : Nat))]),
                                                        Ent.mk (Loc.blk b2)
                                                          (SObj.cells
                                                            [SV.map (1 : Nat) b1, SV.raw (Value.slice (@none Addr) (0 : Nat) (0 : Nat)),
                                                              SV.int IntKind.i64 (IntKind.wrap IntKind.i64 (last + (1 : Int)))]
                                                            (120 : TypeId)),
                                                        Ent.mk (Loc.blk b3) (SObj.cells [SV.vec (5 : Nat) ao2 (List.length cs + (1 : Nat)) cap2] (125 : TypeId)),
                                                        Ent.mk (Loc.sl ao1 cap1) (SObj.vecL (3 : TypeId) (1 : Nat) encInt gs (0 : Int)),
                                                        Ent.mk (Loc.sl ao2 cap2) (SObj.vecL (52 : TypeId) (2 : Nat) encDg (cs ++ es) ((0 : Int), ByteArray.empty)),
                                                        Ent.mk (Loc.blk b)
                                                          (SObj.cells [SV.int IntKind.i64 (IntKind.wrap IntKind.i64 (last + (1 : Int))), SV.str (ByteArray.mk #[(116 : UInt8)])] (52 : Nat)),
                                                        Ent.mk (Loc.blk b_1)
                                                          (SObj.cells [SV.int IntKind.i64 (IntKind.wrap IntKind.i64 (last + (1 : Int))), SV.str (ByteArray.mk #[(116 : UInt8)])] (52 : Nat))]
                                                      (SV.bool false)
                                                  | false =>
                                                    match IntKind.wrap IntKind.i64 (last + (1 : Int)) != IntKind.wrap IntKind.i64 (last + (1 : Int)) with
                                                    | true =>
                                                      N
                                                        [Ent.mk (Loc.sl ao cap) (SObj.roL c0 (1 : Nat) encByte bs (0 : Int)),
                                                          Ent.mk (Loc.blk b1) (SObj.mapV (@none IntKind) [(Key.s (ByteArray.mk #[(115 : UInt8)]), SV.ptr (3 : Nat) b3 (0 : Nat))]),
                                                          Ent.mk (Loc.blk b2)
                                                            (SObj.cells
                                                              [SV.map (1 : Nat) b1, SV.raw (Value.slice (@none Addr) (0 : Nat) (0 : Nat)),
                                                                SV.int IntKind.i64 (IntKind.wrap IntKind.i64 (last + (1 : Int)))]
                                                              (120 : TypeId)),
                                                          Ent.mk (Loc.blk b3) (SObj.cells [SV.vec (5 : Nat) ao2 (List.length cs + (1 : Nat)) cap2] (125 : TypeId)),
                                                          Ent.mk (Loc.sl ao1 cap1) (SObj.vecL (3 : TypeId) (1 : Nat) encInt gs (0 : Int)),
                                                          Ent.mk (Loc.sl ao2 cap2) (SObj.vecL (52 : TypeId) (2 : Nat) encDg (cs ++ es) ((0 : Int), ByteArray.empty)),
                                                          Ent.mk (Loc.blk b)
                                                            (SObj.cells [SV.int IntKind.i64 (IntKind.wrap IntKind.i64 (last + (1 : Int))), SV.str (ByteArray.mk #[(116 : UInt8)])] (52 : Nat)),
                                                          Ent.mk (Loc.blk b_1)
                                                            (SObj.cells [SV.int IntKind.i64 (IntKind.wrap IntKind.i64 (last + (1 : Int))), SV.str (ByteArray.mk #[(116 : UInt8)])] (52 : Nat))]
                                                        (SV.bool false)
                                                    | false =>
                                                      (true = true ∧ (1 : Nat) = (1 : Nat) ∧ (0 : Nat) < (1 : Nat) ∧ (1 : Nat) ≤ (16777216 : Nat)) ∧
                                                        ∀ (b_2 : Nat),
                                                          (ao1 = ao1 ∧
                                                              cap1 = cap1 ∧
                                                                List.length gs = List.length gs ∧
                                                                  some (Addr.mk b_2 (0 : Nat) (@none Nat)) = some (Addr.mk b_2 (0 : Nat) (@none Nat)) ∧
                                                                    (3 : TypeId) = (3 : Nat) ∧
                                                                      (1 : Nat) = (1 : Nat) ∧
                                                                        (1 : Nat) = (1 : Nat) ∧
                                                                          (0 : Nat) < (1 : Nat) ∧
                                                                            true = true ∧
                                                                              (List.length gs + (1 : Nat)) * (8 : Nat) ≤ (140737488355328 : Nat) ∧
                                                                                List.length gs + (1 : Nat) ≤ (9223372036854775807 : Nat)) ∧
                                                            ∃ (es_1 : List Int),
                                                              List.length es_1 = (1 : Nat) ∧
                                                                List.flatMap encInt es_1 = [SV.int IntKind.i64 (IntKind.wrap IntKind.i64 (last + (1 : Int)))] ∧
                                                                  ∀ (ao2_1 : Option Addr) (cap2_1 : Nat),
                                                                    List.length gs + (1 : Nat) ≤ cap2_1 →
                                                                      K (frmR [J] (bodyOf Try.f8) (39 : Nat))
                                                                        (Sy.mk
                                                                          [SV.vec (0 : Nat) ao (List.length bs) cap, SV.raw (u (1 : Nat)), SV.bool false, SV.ptr (2 : Nat) b2 (0 : Nat),
                                                                            SV.vec (4 : Nat) ao2_1 (List.length gs + (1 : Nat)) cap2_1,
                                                                            SV.int IntKind.i64 (IntKind.wrap IntKind.i64 (last + (1 : Int))), SV.int IntKind.i64 i,
                                                                            SV.int IntKind.i64 (IntKind.wrap IntKind.i64 (last + (1 : Int))), SV.int IntKind.i64 (0 : Int), SV.raw (u (9 : Nat)),
                                                                            SV.raw (u (10 : Nat)), SV.raw (u (11 : Nat)), SV.raw (u (12 : Nat)), SV.raw (u (13 : Nat)), SV.raw (u (14 : Nat)),
                                                                            SV.raw (u (15 : Nat)), SV.raw (u (16 : Nat)), SV.raw (u (17 : Nat)), SV.raw (u (18 : Nat)), SV.raw (u (19 : Nat)),
                                                                            SV.raw (u (20 : Nat)), SV.raw (u (21 : Nat)), SV.raw (u (22 : Nat)), SV.raw (u (23 : Nat)), SV.raw (u (24 : Nat)),
                                                                            SV.raw (u (25 : Nat)), SV.raw (u (26 : Nat)), SV.raw (u (27 : Nat)), SV.raw (u (28 : Nat)), SV.raw (u (29 : Nat)),
                                                                            SV.raw (u (30 : Nat)), SV.raw (u (31 : Nat)), SV.raw (u (32 : Nat)), SV.raw (u (33 : Nat)), SV.raw (u (34 : Nat)),
                                                                            SV.raw (u (35 : Nat)), SV.raw (u (36 : Nat)), SV.raw (u (37 : Nat)), SV.raw (u (38 : Nat)), SV.raw (u (39 : Nat)),
                                                                            SV.raw (u (40 : Nat)), SV.raw (u (41 : Nat)), SV.raw (u (42 : Nat)), SV.raw (u (43 : Nat)),
                                                                            SV.tuple [SV.int IntKind.i64 (IntKind.wrap IntKind.i64 (last + (1 : Int))), SV.int IntKind.i64 (0 : Int)],
                                                                            SV.ptr (2 : Nat) b2 (0 : Nat),
                                                                            SV.tuple [SV.int IntKind.i64 (IntKind.wrap IntKind.i64 (last + (1 : Int))), SV.int IntKind.i64 (0 : Int)],
                                                                            SV.int IntKind.i64 (IntKind.wrap IntKind.i64 (last + (1 : Int))), SV.int IntKind.i64 (0 : Int),
                                                                            SV.vec (4 : Nat) ao1 (List.length gs) cap1, SV.int IntKind.i64 (↑(List.length gs) : Int), SV.bool false,
                                                                            SV.raw (u (52 : Nat)), SV.raw (u (53 : Nat)), SV.raw (u (54 : Nat)), SV.raw (u (55 : Nat)), SV.raw (u (56 : Nat)),
                                                                            SV.raw (u (57 : Nat)), SV.int IntKind.i64 (0 : Int), SV.bool false, SV.bool false,
                                                                            SV.int IntKind.i64 (IntKind.wrap IntKind.i64 (last + (1 : Int))), SV.int IntKind.i64 last,
                                                                            SV.int IntKind.i64 (IntKind.wrap IntKind.i64 (last + (1 : Int))),
                                                                            SV.bool (IntKind.wrap IntKind.i64 (last + (1 : Int)) != IntKind.wrap IntKind.i64 (last + (1 : Int))), SV.bool false,
                                                                            SV.int IntKind.i64 (IntKind.wrap IntKind.i64 (last + (1 : Int))), SV.vec (4 : Nat) ao1 (List.length gs) cap1,
                                                                            SV.int IntKind.i64 (IntKind.wrap IntKind.i64 (last + (1 : Int))),
                                                                            SV.vec (8 : Nat) (some (Addr.mk b_2 (0 : Nat) (@none Nat))) (1 : Nat) (1 : Nat),
                                                                            SV.vec (4 : Nat) ao2_1 (List.length gs + (1 : Nat)) cap2_1, SV.raw (u (71 : Nat)), SV.raw (u (72 : Nat)),
                                                                            SV.raw (u (73 : Nat)), SV.raw (u (74 : Nat)), SV.raw (u (75 : Nat)), SV.raw (u (76 : Nat)), SV.raw (u (77 : Nat)),
                                                                            SV.raw (u (78 : Nat)), SV.raw (u (79 : Nat)), SV.raw (u (80 : Nat)), SV.raw (u (81 : Nat)), SV.raw (u (82 : Nat)),
                                                                            SV.raw (u (83 : Nat)), SV.raw (u (84 : Nat)), SV.raw (u (85 : Nat)), SV.raw (u (86 : Nat)), SV.raw (u (87 : Nat)),
                                                                            SV.raw (u (88 : Nat)), SV.raw (u (89 : Nat)), SV.raw (u (90 : Nat)), SV.raw (u (91 : Nat)), SV.raw (u (92 : Nat)),
                                                                            SV.raw (u (93 : Nat)), SV.raw (u (94 : Nat)), SV.raw (u (95 : Nat)), SV.raw (u (96 : Nat)), SV.raw (u (97 : Nat)),
                                                                            SV.raw (u (98 : Nat)), SV.raw (u (99 : Nat)), SV.raw (u (100 : Nat)), SV.raw (u (101 : Nat)), SV.raw (u (102 : Nat))]
                                                                          [Ent.mk (Loc.sl ao cap) (SObj.roL c0 (1 : Nat) encByte bs (0 : Int)),
                                                                            Ent.mk (Loc.blk b1) (SObj.mapV (@none IntKind) [(Key.s (ByteArray.mk #[(115 : UInt8)]), SV.ptr (3 : Nat) b3 (0 : Nat))]),
                                                                            Ent.mk (Loc.blk b2)
                                                                              (SObj.cells
                                                                                [SV.map (1 : Nat) b1, SV.raw (Value.slice (@none Addr) (0 : Nat) (0 : Nat)),
                                                                                  SV.int IntKind.i64 (IntKind.wrap IntKind.i64 (last + (1 : Int)))]
                                                                                (120 : TypeId)),
                                                                            Ent.mk (Loc.blk b3) (SObj.cells [SV.vec (5 : Nat) ao2 (List.length cs + (1 : Nat)) cap2] (125 : TypeId)),
                                                                            Ent.mk (Loc.sl ao2_1 cap2_1) (SObj.vecL (3 : TypeId) (1 : Nat) encInt (gs ++ es_1) (0 : Int)),
                                                                            Ent.mk (Loc.sl ao2 cap2) (SObj.vecL (52 : TypeId) (2 : Nat) encDg (cs ++ es) ((0 : Int), ByteArray.empty)),
                                                                            Ent.mk (Loc.blk b)
                                                                              (SObj.cells [SV.int IntKind.i64 (IntKind.wrap IntKind.i64 (last + (1 : Int))), SV.str (ByteArray.mk #[(116 : UInt8)])]
                                                                                (52 : Nat)),
                                                                            Ent.mk (Loc.blk b_1)
                                                                              (SObj.cells [SV.int IntKind.i64 (IntKind.wrap IntKind.i64 (last + (1 : Int))), SV.str (ByteArray.mk #[(116 : UInt8)])]
                                                                                (52 : Nat)),
                                                                            Ent.mk (Loc.blk b_2) (SObj.cells [SV.int IntKind.i64 (IntKind.wrap IntKind.i64 (last + (1 : Int)))] (3 : Nat))])) := by kernel_rfl

theorem po_acc (K : List Frm → Sy → Prop) (N : List Ent → SV → Prop) (J : Act → World → Prop) (u : Nat → Value) (c0 : Ch) (cap cap1 cap2 b1 b2 b3 : Nat) (ao ao1 ao2 : Option Addr) (bs gs : List Int) (cs : List (Int × ByteArray)) (i last : Int) : (run Try.prog port4 false [39] K (retP Try.prog Try.f8.results.toList N) 900 (frmR [J] (bodyOf Try.f8) 32) ⟨mkT u 103 0 (poLive ao bs cap b2 gs ao1 cap1 last i), poHeap c0 ao bs cap b1 b2 b3 gs ao1 cap1 cs ao2 cap2 last⟩) = (
true = true ∧
  ∀ (b : Nat),
    b2 = b2 ∧
      (b1 = b1 ∧ @none IntKind = @none IntKind ∧ @none IntKind = @none IntKind) ∧
        true = true ∧
          ∀ (b_1 b_2 : Nat),
            b3 = b3 ∧
              match (↑(List.length cs) : Int) == (0 : Int) with
              | true =>
                (b_2 = b_2 ∧ (2 : Nat) = (2 : Nat)) ∧
                  (b_1 = b_1 ∧ true = true ∧ (2 : Nat) = (2 : Nat) ∧ (2 : Nat) ≤ (2 : Nat)) ∧
                    (b_1 = b_1 ∧ (2 : Nat) = (2 : Nat)) ∧
                      ∀ (b_3 : Nat),
                        (b_3 = b_3 ∧ true = true ∧ (2 : Nat) = (2 : Nat) ∧ (2 : Nat) ≤ (2 : Nat)) ∧
                          (true = true ∧ true = true) ∧
                            (b = b ∧ true = true ∧ (2 : Nat) = (2 : Nat) ∧ (2 : Nat) ≤ (2 : Nat)) ∧
                              (b = b ∧ (2 : Nat) = (2 : Nat)) ∧
                                ∀ (b_4 : Nat),
                                  (b_4 = b_4 ∧ true = true ∧ (2 : Nat) = (2 : Nat) ∧ (2 : Nat) ≤ (2 : Nat)) ∧
                                    match (↑(List.length gs) : Int) == (0 : Int) with
                                    | true =>
                                      K (Frm.loop J :: Frm.blk (0 : Nat) :: frm [] (bodyOf Try.f8) [(1 : Nat), (1 : Nat), (1 : Nat), (1 : Nat), (1 : Nat), (1 : Nat), (1 : Nat), (1 : Nat)] [])
                                        (Sy.mk
                                          [SV.vec (0 : Nat) ao (List.length bs) cap, SV.raw (u (1 : Nat)), SV.bool false, SV.ptr (2 : Nat) b2 (0 : Nat), SV.vec (4 : Nat) ao1 (List.length gs) cap1,
                                            SV.int IntKind.i64 last, SV.int IntKind.i64 (IntKind.wrap IntKind.i64 (i + (1 : Int))), SV.raw (u (7 : Nat)), SV.raw (u (8 : Nat)),
                                            SV.ptr (10 : Nat) b_4 (0 : Nat), SV.int IntKind.i64 (100 : Int), SV.raw (u (11 : Nat)), SV.raw (u (12 : Nat)), SV.raw (u (13 : Nat)), SV.raw (u (14 : Nat)),
                                            SV.raw (u (15 : Nat)), SV.raw (u (16 : Nat)), SV.raw (u (17 : Nat)), SV.raw (u (18 : Nat)), SV.raw (u (19 : Nat)), SV.raw (u (20 : Nat)),
                                            SV.raw (u (21 : Nat)), SV.raw (u (22 : Nat)), SV.raw (u (23 : Nat)), SV.int IntKind.i64 i, SV.int IntKind.i64 (IntKind.wrap IntKind.i64 (i + (1 : Int))),
                                            SV.raw (u (26 : Nat)), SV.raw (u (27 : Nat)), SV.raw (u (28 : Nat)), SV.raw (u (29 : Nat)), SV.raw (u (30 : Nat)), SV.raw (u (31 : Nat)),
                                            SV.raw (u (32 : Nat)), SV.raw (u (33 : Nat)), SV.raw (u (34 : Nat)), SV.raw (u (35 : Nat)), SV.raw (u (36 : Nat)), SV.raw (u (37 : Nat)),
                                            SV.raw (u (38 : Nat)), SV.raw (u (39 : Nat)), SV.raw (u (40 : Nat)), SV.raw (u (41 : Nat)), SV.raw (u (42 : Nat)), SV.raw (u (43 : Nat)),
                                            SV.raw (u (44 : Nat)), SV.raw (u (45 : Nat)), SV.raw (u (46 : Nat)), SV.raw (u (47 : Nat)), SV.raw (u (48 : Nat)), SV.raw (u (49 : Nat)),
                                            SV.raw (u (50 : Nat)), SV.raw (u (51 : Nat)), SV.raw (u (52 : Nat)), SV.raw (u (53 : Nat)), SV.raw (u (54 : Nat)), SV.raw (u (55 : Nat)),
                                            SV.raw (u (56 : Nat)), SV.raw (u (57 : Nat)), SV.raw (u (58 : Nat)), SV.raw (u (59 : Nat)), SV.raw (u (60 : Nat)), SV.raw (u (61 : Nat)),
                                            SV.raw (u (62 : Nat)), SV.raw (u (63 : Nat)), SV.raw (u (64 : Nat)), SV.raw (u (65 : Nat)), SV.raw (u (66 : Nat)), SV.raw (u (67 : Nat)),
                                            SV.raw (u (68 : Nat)), SV.raw (u (69 : Nat)), SV.raw (u (70 : Nat)), SV.raw (u (71 : Nat)), SV.raw (u (72 : Nat)), SV.raw (u (73 : Nat)),
                                            SV.raw (u (74 : Nat)), SV.tuple [SV.agg [SV.int IntKind.i64 (0 : Int), SV.str (ByteArray.mk #[])], SV.int IntKind.i64 (100 : Int)],
                                            SV.ptr (2 : Nat) b2 (0 : Nat), SV.tuple [SV.agg [SV.int IntKind.i64 (0 : Int), SV.str (ByteArray.mk #[])], SV.int IntKind.i64 (100 : Int)],
                                            SV.agg [SV.int IntKind.i64 (0 : Int), SV.str (ByteArray.mk #[])], SV.int IntKind.i64 (100 : Int), SV.vec (4 : Nat) ao1 (List.length gs) cap1,
                                            SV.int IntKind.i64 (↑(List.length gs) : Int), SV.bool true, SV.int IntKind.i64 (100 : Int), SV.bool false, SV.raw (u (85 : Nat)), SV.raw (u (86 : Nat)),
                                            SV.raw (u (87 : Nat)), SV.raw (u (88 : Nat)), SV.raw (u (89 : Nat)), SV.raw (u (90 : Nat)), SV.raw (u (91 : Nat)), SV.raw (u (92 : Nat)),
                                            SV.raw (u (93 : Nat)), SV.raw (u (94 : Nat)), SV.raw (u (95 : Nat)), SV.raw (u (96 : Nat)), SV.raw (u (97 : Nat)), SV.raw (u (98 : Nat)),
                                            SV.raw (u (99 : Nat)), SV.raw (u (100 : Nat)), SV.raw (u (101 : Nat)), SV.raw (u (102 : Nat))]
                                          [Ent.mk (Loc.sl ao cap) (SObj.roL c0 (1 : Nat) encByte bs (0 : Int)),
                                            Ent.mk (Loc.blk b1) (SObj.mapV (@none IntKind) [(Key.s (ByteArray.mk #[(115 : UInt8)]), SV.ptr (3 : Nat) b3 (0 : Nat))]),
                                            Ent.mk (Loc.blk b2) (SObj.cells [SV.map (1 : Nat) b1, SV.raw (Value.slice (@none Addr) (0 : Nat) (0 : Nat)), SV.int IntKind.i64 last] (120 : TypeId)),
                                            Ent.mk (Loc.blk b3) (SObj.cells [SV.vec (5 : Nat) ao2 (List.length cs) cap2] (125 : TypeId)),
                                            Ent.mk (Loc.sl ao1 cap1) (SObj.vecL (3 : TypeId) (1 : Nat) encInt gs (0 : Int)),
                                            Ent.mk (Loc.sl ao2 cap2) (SObj.vecL (52 : TypeId) (2 : Nat) encDg cs ((0 : Int), ByteArray.empty)),
                                            Ent.mk (Loc.blk b) (SObj.cells [SV.int IntKind.i64 (0 : Int), SV.str (ByteArray.mk #[])] (52 : Nat)),
                                            Ent.mk (Loc.blk b_1) (SObj.cells [SV.int IntKind.i64 (0 : Int), SV.str (ByteArray.mk #[])] (52 : Nat)),
                                            Ent.mk (Loc.blk b_2) (SObj.cells [SV.int IntKind.i64 (0 : Int), SV.str (ByteArray.mk #[])] (52 : Nat)),
                                            Ent.mk (Loc.blk b_3) (SObj.cells [SV.int IntKind.i64 (0 : Int), SV.str (ByteArray.mk #[])] (52 : Nat)),
                                            Ent.mk (Loc.blk b_4) (SObj.cells [SV.int IntKind.i64 (0 : Int), SV.str (ByteArray.mk #[])] (52 : Nat))])
                                    | false =>
                                      N
                                        [Ent.mk (Loc.sl ao cap) (SObj.roL c0 (1 : Nat) encByte bs (0 : Int)),
                                          Ent.mk (Loc.blk b1) (SObj.mapV (@none IntKind) [(Key.s (ByteArray.mk #[(115 : UInt8)]), SV.ptr (3 : Nat) b3 (0 : Nat))]),
                                          Ent.mk (Loc.blk b2) (SObj.cells [SV.map (1 : Nat) b1, SV.raw (Value.slice (@none Addr) (0 : Nat) (0 : Nat)), SV.int IntKind.i64 last] (120 : TypeId)),
                                          Ent.mk (Loc.blk b3) (SObj.cells [SV.vec (5 : Nat) ao2 (List.length cs) cap2] (125 : TypeId)),
                                          Ent.mk (Loc.sl ao1 cap1) (SObj.vecL (3 : TypeId) (1 : Nat) encInt gs (0 : Int)),
                                          Ent.mk (Loc.sl ao2 cap2) (SObj.vecL (52 : TypeId) (2 : Nat) encDg cs ((0 : Int), ByteArray.empty)),
                                          Ent.mk (Loc.blk b) (SObj.cells [SV.int IntKind.i64 (0 : Int), SV.str (ByteArray.mk #[])] (52 : Nat)),
                                          Ent.mk (Loc.blk b_1) (SObj.cells [SV.int IntKind.i64 (0 : Int), SV.str (ByteArray.mk #[])] (52 : Nat)),
                                          Ent.mk (Loc.blk b_2) (SObj.cells [SV.int IntKind.i64 (0 : Int), SV.str (ByteArray.mk #[])] (52 : Nat)),
                                          Ent.mk (Loc.blk b_3) (SObj.cells [SV.int IntKind.i64 (0 : Int), SV.str (ByteArray.mk #[])] (52 : Nat)),
                                          Ent.mk (Loc.blk b_4) (SObj.cells [SV.int IntKind.i64 (0 : Int), SV.str (ByteArray.mk #[])] (52 : Nat))]
                                        (SV.bool false)
              | false =>
                b3 = b3 ∧
                  (ao2 = ao2 ∧ cap2 = cap2 ∧ List.length cs = List.length cs ∧ (0 : Int) ≤ (0 : Int) ∧ (0 : Int) < (↑(List.length cs) : Int)) ∧
                    (Addr.blkD ao2 = Addr.blkD ao2 ∧ Addr.offD ao2 = Addr.offD ao2 ∧ (2 : Nat) = (2 : Nat) ∧ (0 : Nat) < List.length cs ∧ (2 : Nat) = (2 : Nat)) ∧
                      (b3 = b3 ∧
                          ((0 : Int) ≤ (1 : Int) ∧ (1 : Int) ≤ (↑(List.length cs) : Int) ∧ List.length cs ≤ cap2) ∧
                            (b_2 = b_2 ∧ true = true ∧ (2 : Nat) = (2 : Nat) ∧ (2 : Nat) ≤ (2 : Nat)) ∧
                              (b3 = b3 ∧ true = true ∧ (1 : Nat) = (1 : Nat) ∧ (1 : Nat) ≤ (1 : Nat)) ∧
                                (b_2 = b_2 ∧ (2 : Nat) = (2 : Nat)) ∧
                                  (b_1 = b_1 ∧ true = true ∧ (2 : Nat) = (2 : Nat) ∧ (2 : Nat) ≤ (2 : Nat)) ∧
                                    (b_1 = b_1 ∧ (2 : Nat) = (2 : Nat)) ∧
                                      ∀ (b_3 : Nat),
                                        (b_3 = b_3 ∧ true = true ∧ (2 : Nat) = (2 : Nat) ∧ (2 : Nat) ≤ (2 : Nat)) ∧
                                          (b_3 = b_3 ∧ (2 : Nat) = (2 : Nat)) ∧
                                            (b = b ∧ true = true ∧ (2 : Nat) = (2 : Nat) ∧ (2 : Nat) ≤ (2 : Nat)) ∧
                                              (b = b ∧ (2 : Nat) = (2 : Nat)) ∧
                                                ∀ (b_4 : Nat),
                                                  (b_4 = b_4 ∧ true = true ∧ (2 : Nat) = (2 : Nat) ∧ (2 : Nat) ≤ (2 : Nat)) ∧
                                                    match (↑(List.length gs) : Int) == (0 : Int) with
                                                    | true =>
                                                      N
                                                        [Ent.mk (Loc.sl ao cap) (SObj.roL c0 (1 : Nat) encByte bs (0 : Int)),
                                                          Ent.mk (Loc.blk b1) (SObj.mapV (@none IntKind) [(Key.s (ByteArray.mk #[(115 : UInt8)]), SV.ptr (3 : Nat) b3 (0 : Nat))]),
                                                          Ent.mk (Loc.blk b2)
                                                            (SObj.cells [SV.map (1 : Nat) b1, SV.raw (Value.slice (@none Addr) (0 : Nat) (0 : Nat)), SV.int IntKind.i64 last] (120 : TypeId)),
                                                          Ent.mk (Loc.blk b3) (SObj.cells [SV.sub (5 : Nat) ao2 cap2 (2 : Nat) (1 : Nat) (List.length cs)] (125 : TypeId)),
                                                          Ent.mk (Loc.sl ao1 cap1) (SObj.vecL (3 : TypeId) (1 : Nat) encInt gs (0 : Int)),
                                                          Ent.mk (Loc.sl ao2 cap2) (SObj.vecL (52 : TypeId) (2 : Nat) encDg cs ((0 : Int), ByteArray.empty)),
                                                          Ent.mk (Loc.blk b)
                                                            (SObj.cells
                                                              [SV.int IntKind.i64 (List.getD cs (0 : Nat) ((0 : Int), ByteArray.empty)).1,
                                                                SV.str (List.getD cs (0 : Nat) ((0 : Int), ByteArray.empty)).snd]
                                                              (52 : Nat)),
                                                          Ent.mk (Loc.blk b_1)
                                                            (SObj.cells
                                                              [SV.int IntKind.i64 (List.getD cs (0 : Nat) ((0 : Int), ByteArray.empty)).1,
                                                                SV.str (List.getD cs (0 : Nat) ((0 : Int), ByteArray.empty)).snd]
                                                              (52 : Nat)),
                                                          Ent.mk (Loc.blk b_2)
                                                            (SObj.cells
                                                              [SV.int IntKind.i64 (List.getD cs (0 : Nat) ((0 : Int), ByteArray.empty)).1,
                                                                SV.str (List.getD cs (0 : Nat) ((0 : Int), ByteArray.empty)).snd]
                                                              (52 : Nat)),
                                                          Ent.mk (Loc.blk b_3)
                                                            (SObj.cells
                                                              [SV.int IntKind.i64 (List.getD cs (0 : Nat) ((0 : Int), ByteArray.empty)).1,
                                                                SV.str (List.getD cs (0 : Nat) ((0 : Int), ByteArray.empty)).snd]
                                                              (52 : Nat)),
                                                          Ent.mk (Loc.blk b_4)
                                                            (SObj.cells
                                                              [SV.int IntKind.i64 (List.getD cs (0 : Nat) ((0 : Int), ByteArray.empty)).1,
                                                                SV.str (List.getD cs (0 : Nat) ((0 : Int), ByteArray.empty)).snd]
                                                              (52 : Nat))]
                                                        (SV.bool false)
                                                    | false =>
                                                      b_4 = b_4 ∧
                                                        (ao1 = ao1 ∧ cap1 = cap1 ∧ List.length gs = List.length gs ∧ (0 : Int) ≤ (0 : Int) ∧ (0 : Int) < (↑(List.length gs) : Int)) ∧
                                                          (Addr.blkD ao1 = Addr.blkD ao1 ∧ Addr.offD ao1 = Addr.offD ao1 ∧ (1 : Nat) = (1 : Nat) ∧ (0 : Nat) < List.length gs) ∧
                                                            match (List.getD cs (0 : Nat) ((0 : Int), ByteArray.empty)).1 != List.getD gs (0 : Nat) (0 : Int) with
                                                            | true =>
                                                              N
                                                                [Ent.mk (Loc.sl ao cap) (SObj.roL c0 (1 : Nat) encByte bs (0 : Int)),
                                                                  Ent.mk (Loc.blk b1) (SObj.mapV (@none IntKind) [(Key.s (ByteArray.mk #[(115 : UInt8)]), SV.ptr (3 : Nat) b3 (0 : Nat))]),
                                                                  Ent.mk (Loc.blk b2)
                                                                    (SObj.cells [SV.map (1 : Nat) b1, SV.raw (Value.slice (@none Addr) (0 : Nat) (0 : Nat)), SV.int IntKind.i64 last] (120 : TypeId)),
                                                                  Ent.mk (Loc.blk b3) (SObj.cells [SV.sub (5 : Nat) ao2 cap2 (2 : Nat) (1 : Nat) (List.length cs)] (125 : TypeId)),
                                                                  Ent.mk (Loc.sl ao1 cap1) (SObj.vecL (3 : TypeId) (1 : Nat) encInt gs (0 : Int)),
                                                                  Ent.mk (Loc.sl ao2 cap2) (SObj.vecL (52 : TypeId) (2 : Nat) encDg cs ((0 : Int), ByteArray.empty)),
                                                                  Ent.mk (Loc.blk b)
                                                                    (SObj.cells
                                                                      [SV.int IntKind.i64 (List.getD cs (0 : Nat) ((0 : Int), ByteArray.empty)).1,
                                                                        SV.str (List.getD cs (0 : Nat) ((0 : Int), ByteArray.empty)).snd]
                                                                      (52 : Nat)),
                                                                  Ent.mk (Loc.blk b_1)
                                                                    (SObj.cells
                                                                      [SV.int IntKind.i64 (List.getD cs (0 : Nat) ((0 : Int), ByteArray.empty)).1,
                                                                        SV.str (List.getD cs (0 : Nat) ((0 : Int), ByteArray.empty)).snd]
                                                                      (52 : Nat)),
                                                                  Ent.mk (Loc.blk b_2)
                                                                    (SObj.cells
                                                                      [SV.int IntKind.i64 (List.getD cs (0 : Nat) ((0 : Int), ByteArray.empty)).1,
                                                                        SV.str (List.getD cs (0 : Nat) ((0 : Int), ByteArray.empty)).snd]
                                                                      (52 : Nat)),
                                                                  Ent.mk (Loc.blk b_3)
                                                                    (SObj.cells
                                                                      [SV.int IntKind.i64 (List.getD cs (0 : Nat) ((0 : Int), ByteArray.empty)).1,
                                                                        SV.str (List.getD cs (0 : Nat) ((0 : Int), ByteArray.empty)).snd]
                                                                      (52 : Nat)),
                                                                  Ent.mk (Loc.blk b_4)
                                                                    (SObj.cells
                                                                      [SV.int IntKind.i64 (List.getD cs (0 : Nat) ((0 : Int), ByteArray.empty)).1,
                                                                        SV.str (List.getD cs (0 : Nat) ((0 : Int), ByteArray.empty)).snd]
                                                                      (52 : Nat))]
                                                                (SV.bool false)
                                                            | false =>
                                                              ((0 : Int) ≤ (1 : Int) ∧ (1 : Int) ≤ (↑(List.length gs) : Int) ∧ List.length gs ≤ cap1) ∧
                                                                K (frmR [J] (bodyOf Try.f8) (39 : Nat))
                                                                  (Sy.mk
                                                                    [SV.vec (0 : Nat) ao (List.length bs) cap, SV.raw (u (1 : Nat)), SV.bool false, SV.ptr (2 : Nat) b2 (0 : Nat),
                                                                      SV.sub (4 : Nat) ao1 cap1 (1 : Nat) (1 : Nat) (List.length gs), SV.int IntKind.i64 last, SV.int IntKind.i64 i,
                                                                      SV.raw (u (7 : Nat)), SV.raw (u (8 : Nat)), SV.ptr (10 : Nat) b_4 (0 : Nat), SV.int IntKind.i64 (0 : Int), SV.raw (u (11 : Nat)),
                                                                      SV.raw (u (12 : Nat)), SV.raw (u (13 : Nat)), SV.raw (u (14 : Nat)), SV.raw (u (15 : Nat)), SV.raw (u (16 : Nat)),
                                                                      SV.raw (u (17 : Nat)), SV.raw (u (18 : Nat)), SV.raw (u (19 : Nat)), SV.raw (u (20 : Nat)), SV.raw (u (21 : Nat)),
                                                                      SV.raw (u (22 : Nat)), SV.raw (u (23 : Nat)), SV.raw (u (24 : Nat)), SV.raw (u (25 : Nat)), SV.raw (u (26 : Nat)),
                                                                      SV.raw (u (27 : Nat)), SV.raw (u (28 : Nat)), SV.raw (u (29 : Nat)), SV.raw (u (30 : Nat)), SV.raw (u (31 : Nat)),
                                                                      SV.raw (u (32 : Nat)), SV.raw (u (33 : Nat)), SV.raw (u (34 : Nat)), SV.raw (u (35 : Nat)), SV.raw (u (36 : Nat)),
                                                                      SV.raw (u (37 : Nat)), SV.raw (u (38 : Nat)), SV.raw (u (39 : Nat)), SV.raw (u (40 : Nat)), SV.raw (u (41 : Nat)),
                                                                      SV.raw (u (42 : Nat)), SV.raw (u (43 : Nat)), SV.raw (u (44 : Nat)), SV.raw (u (45 : Nat)), SV.raw (u (46 : Nat)),
                                                                      SV.raw (u (47 : Nat)), SV.raw (u (48 : Nat)), SV.raw (u (49 : Nat)), SV.raw (u (50 : Nat)), SV.raw (u (51 : Nat)),
                                                                      SV.raw (u (52 : Nat)), SV.raw (u (53 : Nat)), SV.raw (u (54 : Nat)), SV.raw (u (55 : Nat)), SV.raw (u (56 : Nat)),
                                                                      SV.raw (u (57 : Nat)), SV.raw (u (58 : Nat)), SV.raw (u (59 : Nat)), SV.raw (u (60 : Nat)), SV.raw (u (61 : Nat)),
                                                                      SV.raw (u (62 : Nat)), SV.raw (u (63 : Nat)), SV.raw (u (64 : Nat)), SV.raw (u (65 : Nat)), SV.raw (u (66 : Nat)),
                                                                      SV.raw (u (67 : Nat)), SV.raw (u (68 : Nat)), SV.raw (u (69 : Nat)), SV.raw (u (70 : Nat)), SV.raw (u (71 : Nat)),
                                                                      SV.raw (u (72 : Nat)), SV.raw (u (73 : Nat)), SV.raw (u (74 : Nat)),
                                                                      SV.tuple
                                                                        [SV.agg
                                                                            [SV.int IntKind.i64 (List.getD cs (0 : Nat) ((0 : Int), ByteArray.empty)).1,
                                                                              SV.str (List.getD cs (0 : Nat) ((0 : Int), ByteArray.empty)).snd],
                                                                          SV.int IntKind.i64 (0 : Int)],
                                                                      SV.ptr (2 : Nat) b2 (0 : Nat),
                                                                      SV.tuple
                                                                        [SV.agg
                                                                            [SV.int IntKind.i64 (List.getD cs (0 : Nat) ((0 : Int), ByteArray.empty)).1,
                                                                              SV.str (List.getD cs (0 : Nat) ((0 : Int), ByteArray.empty)).snd],
                                                                          SV.int IntKind.i64 (0 : Int)],
                                                                      SV.agg
                                                                        [SV.int IntKind.i64 (List.getD cs (0 : Nat) ((0 : Int), ByteArray.empty)).1,
                                                                          SV.str (List.getD cs (0 : Nat) ((0 : Int), ByteArray.empty)).snd],
                                                                      SV.int IntKind.i64 (0 : Int), SV.vec (4 : Nat) ao1 (List.length gs) cap1, SV.int IntKind.i64 (↑(List.length gs) : Int),
                                                                      SV.bool false, SV.raw (u (83 : Nat)), SV.raw (u (84 : Nat)), SV.int IntKind.i64 (0 : Int), SV.bool false, SV.bool false,
                                                                      SV.ptr (10 : Nat) b_4 (0 : Nat), SV.int IntKind.i64 (List.getD cs (0 : Nat) ((0 : Int), ByteArray.empty)).1,
                                                                      SV.vec (4 : Nat) ao1 (List.length gs) cap1, SV.eptr (4 : Nat) (Addr.blkD ao1) (Addr.offD ao1) (1 : Nat) (0 : Nat) (0 : Nat),
                                                                      SV.int IntKind.i64 (List.getD gs (0 : Nat) (0 : Int)),
                                                                      SV.bool ((List.getD cs (0 : Nat) ((0 : Int), ByteArray.empty)).1 != List.getD gs (0 : Nat) (0 : Int)), SV.bool false,
                                                                      SV.vec (4 : Nat) ao1 (List.length gs) cap1, SV.sub (4 : Nat) ao1 cap1 (1 : Nat) (1 : Nat) (List.length gs), SV.raw (u (97 : Nat)),
                                                                      SV.raw (u (98 : Nat)), SV.raw (u (99 : Nat)), SV.raw (u (100 : Nat)), SV.raw (u (101 : Nat)), SV.raw (u (102 : Nat))]
                                                                    [Ent.mk (Loc.sl ao cap) (SObj.roL c0 (1 : Nat) encByte bs (0 : Int)),
                                                                      Ent.mk (Loc.blk b1) (SObj.mapV (@none IntKind) [(Key.s (ByteArray.mk #[(115 : UInt8)]), SV.ptr (3 : Nat) b3 (0 : Nat))]),
                                                                      Ent.mk (Loc.blk b2)
                                                                        (SObj.cells [SV.map (1 : Nat) b1, SV.raw (Value.slice (@none Addr) (0 : Nat) (0 : Nat)), SV.int IntKind.i64 last]
                                                                          (120 : TypeId)),
                                                                      Ent.mk (Loc.blk b3) (SObj.cells [SV.sub (5 : Nat) ao2 cap2 (2 : Nat) (1 : Nat) (List.length cs)] (125 : TypeId)),
                                                                      Ent.mk (Loc.sl ao1 cap1) (SObj.vecL (3 : TypeId) (1 : Nat) encInt gs (0 : Int)),
                                                                      Ent.mk (Loc.sl ao2 cap2) (SObj.vecL (52 : TypeId) (2 : Nat) encDg cs ((0 : Int), ByteArray.empty)),
                                                                      Ent.mk (Loc.blk b)
                                                                        (SObj.cells
                                                                          [SV.int IntKind.i64 (List.getD cs (0 : Nat) ((0 : Int), ByteArray.empty)).1,
                                                                            SV.str (List.getD cs (0 : Nat) ((0 : Int), ByteArray.empty)).snd]
                                                                          (52 : Nat)),
                                                                      Ent.mk (Loc.blk b_1)
                                                                        (SObj.cells
                                                                          [SV.int IntKind.i64 (List.getD cs (0 : Nat) ((0 : Int), ByteArray.empty)).1,
                                                                            SV.str (List.getD cs (0 : Nat) ((0 : Int), ByteArray.empty)).snd]
                                                                          (52 : Nat)),
                                                                      Ent.mk (Loc.blk b_2)
                                                                        (SObj.cells
                                                                          [SV.int IntKind.i64 (List.getD cs (0 : Nat) ((0 : Int), ByteArray.empty)).1,
                                                                            SV.str (List.getD cs (0 : Nat) ((0 : Int), ByteArray.empty)).snd]
                                                                          (52 : Nat)),
                                                                      Ent.mk (Loc.blk b_3)
                                                                        (SObj.cells
                                                                          [SV.int IntKind.i64 (List.getD cs (0 : Nat) ((0 : Int), ByteArray.empty)).1,
                                                                            SV.str (List.getD cs (0 : Nat) ((0 : Int), ByteArray.empty)).snd]
                                                                          (52 : Nat)),
                                                                      Ent.mk (Loc.blk b_4)
                                                                        (SObj.cells
                                                                          [SV.int IntKind.i64 (List.getD cs (0 : Nat) ((0 : Int), ByteArray.empty)).1,
                                                                            SV.str (List.getD cs (0 : Nat) ((0 : Int), ByteArray.empty)).snd]
                                                                          (52 : Nat))])) ∧
                        (b_2 = b_2 ∧ true = true ∧ (2 : Nat) = (2 : Nat) ∧ (2 : Nat) ≤ (2 : Nat)) ∧
                          b3 = b3 ∧
                            ((0 : Int) ≤ (1 : Int) ∧ (1 : Int) ≤ (↑(List.length cs) : Int) ∧ List.length cs ≤ cap2) ∧
                              (b3 = b3 ∧ true = true ∧ (1 : Nat) = (1 : Nat) ∧ (1 : Nat) ≤ (1 : Nat)) ∧
                                (b_2 = b_2 ∧ (2 : Nat) = (2 : Nat)) ∧
                                  (b_1 = b_1 ∧ true = true ∧ (2 : Nat) = (2 : Nat) ∧ (2 : Nat) ≤ (2 : Nat)) ∧
                                    (b_1 = b_1 ∧ (2 : Nat) = (2 : Nat)) ∧
                                      ∀ (b_3 : Nat),
                                        (b_3 = b_3 ∧ true = true ∧ (2 : Nat) = (2 : Nat) ∧ (2 : Nat) ≤ (2 : Nat)) ∧
                                          (b_3 = b_3 ∧ (2 : Nat) = (2 : Nat)) ∧
                                            (b = b ∧ true = true ∧ (2 : Nat) = (2 : Nat) ∧ (2 : Nat) ≤ (2 : Nat)) ∧
                                              (b = b ∧ (2 : Nat) = (2 : Nat)) ∧
                                                ∀ (b_4 : Nat),
                                                  (b_4 = b_4 ∧ true = true ∧ (2 : Nat) = (2 : Nat) ∧ (2 : Nat) ≤ (2 : Nat)) ∧
                                                    match (↑(List.length gs) : Int) == (0 : Int) with
                                                    | true =>
                                                      N
                                                        [Ent.mk (Loc.sl ao cap) (SObj.roL c0 (1 : Nat) encByte bs (0 : Int)),
                                                          Ent.mk (Loc.blk b1) (SObj.mapV (@none IntKind) [(Key.s (ByteArray.mk #[(115 : UInt8)]), SV.ptr (3 : Nat) b3 (0 : Nat))]),
                                                          Ent.mk (Loc.blk b2)
                                                            (SObj.cells [SV.map (1 : Nat) b1, SV.raw (Value.slice (@none Addr) (0 : Nat) (0 : Nat)), SV.int IntKind.i64 last] (120 : TypeId)),
                                                          Ent.mk (Loc.blk b3) (SObj.cells [SV.sub (5 : Nat) ao2 cap2 (2 : Nat) (1 : Nat) (List.length cs)] (125 : TypeId)),
                                                          Ent.mk (Loc.sl ao1 cap1) (SObj.vecL (3 : TypeId) (1 : Nat) encInt gs (0 : Int)),
                                                          Ent.mk (Loc.sl ao2 cap2) (SObj.vecL (52 : TypeId) (2 : Nat) encDg cs ((0 : Int), ByteArray.empty)),
                                                          Ent.mk (Loc.blk b)
                                                            (SObj.cells
                                                              [SV.int IntKind.i64 (List.getD cs (0 : Nat) ((0 : Int), ByteArray.empty)).1,
                                                                SV.str (List.getD cs (0 : Nat) ((0 : Int), ByteArray.empty)).snd]
                                                              (52 : Nat)),
                                                          Ent.mk (Loc.blk b_1)
                                                            (SObj.cells
                                                              [SV.int IntKind.i64 (List.getD cs (0 : Nat) ((0 : Int), ByteArray.empty)).1,
                                                                SV.str (List.getD cs (0 : Nat) ((0 : Int), ByteArray.empty)).snd]
                                                              (52 : Nat)),
                                                          Ent.mk (Loc.blk b_2)
                                                            (SObj.cells
                                                              [SV.int IntKind.i64 (List.getD cs (0 : Nat) ((0 : Int), ByteArray.empty)).1,
                                                                SV.str (List.getD cs (0 : Nat) ((0 : Int), ByteArray.empty)).snd]
                                                              (52 : Nat)),
                                                          Ent.mk (Loc.blk b_3)
                                                            (SObj.cells
                                                              [SV.int IntKind.i64 (List.getD cs (0 : Nat) ((0 : Int), ByteArray.empty)).1,
                                                                SV.str (List.getD cs (0 : Nat) ((0 : Int), ByteArray.empty)).snd]
                                                              (52 : Nat)),
                                                          Ent.mk (Loc.blk b_4)
                                                            (SObj.cells
                                                              [SV.int IntKind.i64 (List.getD cs (0 : Nat) ((0 : Int), ByteArray.empty)).1,
                                                                SV.str (List.getD cs (0 : Nat) ((0 : Int), ByteArray.empty)).snd]
                                                              (52 : Nat))]
                                                        (SV.bool false)
                                                    | false =>
                                                      b_4 = b_4 ∧
                                                        (ao1 = ao1 ∧ cap1 = cap1 ∧ List.length gs = List.length gs ∧ (0 : Int) ≤ (0 : Int) ∧ (0 : Int) < (↑(List.length gs) : Int)) ∧
                                                          (Addr.blkD ao1 = Addr.blkD ao1 ∧ Addr.offD ao1 = Addr.offD ao1 ∧ (1 : Nat) = (1 : Nat) ∧ (0 : Nat) < List.length gs) ∧
                                                            match (List.getD cs (0 : Nat) ((0 : Int), ByteArray.empty)).1 != List.getD gs (0 : Nat) (0 : Int) with
                                                            | true =>
                                                              N
                                                                [Ent.mk (Loc.sl ao cap) (SObj.roL c0 (1 : Nat) encByte bs (0 : Int)),
                                                                  Ent.mk (Loc.blk b1) (SObj.mapV (@none IntKind) [(Key.s (ByteArray.mk #[(115 : UInt8)]), SV.ptr (3 : Nat) b3 (0 : Nat))]),
                                                                  Ent.mk (Loc.blk b2)
                                                                    (SObj.cells [SV.map (1 : Nat) b1, SV.raw (Value.slice (@none Addr) (0 : Nat) (0 : Nat)), SV.int IntKind.i64 last] (120 : TypeId)),
                                                                  Ent.mk (Loc.blk b3) (SObj.cells [SV.sub (5 : Nat) ao2 cap2 (2 : Nat) (1 : Nat) (List.length cs)] (125 : TypeId)),
                                                                  Ent.mk (Loc.sl ao1 cap1) (SObj.vecL (3 : TypeId) (1 : Nat) encInt gs (0 : Int)),
                                                                  Ent.mk (Loc.sl ao2 cap2) (SObj.vecL (52 : TypeId) (2 : Nat) encDg cs ((0 : Int), ByteArray.empty)),
                                                                  Ent.mk (Loc.blk b)
                                                                    (SObj.cells
                                                                      [SV.int IntKind.i64 (List.getD cs (0 : Nat) ((0 : Int), ByteArray.empty)).1,
                                                                        SV.str (List.getD cs (0 : Nat) ((0 : Int), ByteArray.empty)).snd]
                                                                      (52 : Nat)),
                                                                  Ent.mk (Loc.blk b_1)
                                                                    (SObj.cells
                                                                      [SV.int IntKind.i64 (List.getD cs (0 : Nat) ((0 : Int), ByteArray.empty)).1,
                                                                        SV.str (List.getD cs (0 : Nat) ((0 : Int), ByteArray.empty)).snd]
                                                                      (52 : Nat)),
                                                                  Ent.mk (Loc.blk b_2)
                                                                    (SObj.cells
                                                                      [SV.int IntKind.i64 (List.getD cs (0 : Nat) ((0 : Int), ByteArray.empty)).1,
                                                                        SV.str (List.getD cs (0 : Nat) ((0 : Int), ByteArray.empty)).snd]
                                                                      (52 : Nat)),
                                                                  Ent.mk (Loc.blk b_3)
                                                                    (SObj.cells
                                                                      [SV.int IntKind.i64 (List.getD cs (0 : Nat) ((0 : Int), ByteArray.empty)).1,
                                                                        SV.str (List.getD cs (0 : Nat) ((0 : Int), ByteArray.empty)).snd]
                                                                      (52 : Nat)),
                                                                  Ent.mk (Loc.blk b_4)
                                                                    (SObj.cells
                                                                      [SV.int IntKind.i64 (List.getD cs (0 : Nat) ((0 : Int), ByteArray.empty)).1,
                                                                        SV.str (List.getD cs (0 : Nat) ((0 : Int), ByteArray.empty)).snd]
                                                                      (52 : Nat))]
                                                                (SV.bool false)
                                                            | false =>
                                                              ((0 : Int) ≤ (1 : Int) ∧ (1 : Int) ≤ (↑(List.length gs) : Int) ∧ List.length gs ≤ cap1) ∧
                                                                K (frmR [J] (bodyOf Try.f8) (39 : Nat))
                                                                  (Sy.mk
                                                                    [SV.vec (0 : Nat) ao (List.length bs) cap, SV.raw (u (1 : Nat)), SV.bool false, SV.ptr (2 : Nat) b2 (0 : Nat),
                                                                      SV.sub (4 : Nat) ao1 cap1 (1 : Nat) (1 : Nat) (List.length gs), SV.int IntKind.i64 last, SV.int IntKind.i64 i,
                                                                      SV.raw (u (7 : Nat)), SV.raw (u (8 : Nat)), SV.ptr (10 : Nat) b_4 (0 : Nat), SV.int IntKind.i64 (0 : Int), SV.raw (u (11 : Nat)),
                                                                      SV.raw (u (12 : Nat)), SV.raw (u (13 : Nat)), SV.raw (u (14 : Nat)), SV.raw (u (15 : Nat)), SV.raw (u (16 : Nat)),
                                                                      SV.raw (u (17 : Nat)), SV.raw (u (18 : Nat)), SV.raw (u (19 : Nat)), SV.raw (u (20 : Nat)), SV.raw (u (21 : Nat)),
                                                                      SV.raw (u (22 : Nat)), SV.raw (u (23 : Nat)), SV.raw (u (24 : Nat)), SV.raw (u (25 : Nat)), SV.raw (u (26 : Nat)),
                                                                      SV.raw (u (27 : Nat)), SV.raw (u (28 : Nat)), SV.raw (u (29 : Nat)), SV.raw (u (30 : Nat)), SV.raw (u (31 : Nat)),
                                                                      SV.raw (u (32 : Nat)), SV.raw (u (33 : Nat)), SV.raw (u (34 : Nat)), SV.raw (u (35 : Nat)), SV.raw (u (36 : Nat)),
                                                                      SV.raw (u (37 : Nat)), SV.raw (u (38 : Nat)), SV.raw (u (39 : Nat)), SV.raw (u (40 : Nat)), SV.raw (u (41 : Nat)),
                                                                      SV.raw (u (42 : Nat)), SV.raw (u (43 : Nat)), SV.raw (u (44 : Nat)), SV.raw (u (45 : Nat)), SV.raw (u (46 : Nat)),
                                                                      SV.raw (u (47 : Nat)), SV.raw (u (48 : Nat)), SV.raw (u (49 : Nat)), SV.raw (u (50 : Nat)), SV.raw (u (51 : Nat)),
                                                                      SV.raw (u (52 : Nat)), SV.raw (u (53 : Nat)), SV.raw (u (54 : Nat)), SV.raw (u (55 : Nat)), SV.raw (u (56 : Nat)),
                                                                      SV.raw (u (57 : Nat)), SV.raw (u (58 : Nat)), SV.raw (u (59 : Nat)), SV.raw (u (60 : Nat)), SV.raw (u (61 : Nat)),
                                                                      SV.raw (u (62 : Nat)), SV.raw (u (63 : Nat)), SV.raw (u (64 : Nat)), SV.raw (u (65 : Nat)), SV.raw (u (66 : Nat)),
                                                                      SV.raw (u (67 : Nat)), SV.raw (u (68 : Nat)), SV.raw (u (69 : Nat)), SV.raw (u (70 : Nat)), SV.raw (u (71 : Nat)),
                                                                      SV.raw (u (72 : Nat)), SV.raw (u (73 : Nat)), SV.raw (u (74 : Nat)),
                                                                      SV.tuple
                                                                        [SV.agg
                                                                            [SV.int IntKind.i64 (List.getD cs (0 : Nat) ((0 : Int), ByteArray.empty)).1,
                                                                              SV.str (List.getD cs (0 : Nat) ((0 : Int), ByteArray.empty)).snd],
                                                                          SV.int IntKind.i64 (0 : Int)],
                                                                      SV.ptr (2 : Nat) b2 (0 : Nat),
                                                                      SV.tuple
                                                                        [SV.agg
                                                                            [SV.int IntKind.i64 (List.getD cs (0 : Nat) ((0 : Int), ByteArray.empty)).1,
                                                                              SV.str (List.getD cs (0 : Nat) ((0 : Int), ByteArray.empty)).snd],
                                                                          SV.int IntKind.i64 (0 : Int)],
                                                                      SV.agg
                                                                        [SV.int IntKind.i64 (List.getD cs (0 : Nat) ((0 : Int), ByteArray.empty)).1,
                                                                          SV.str (List.getD cs (0 : Nat) ((0 : Int), ByteArray.empty)).snd],
                                                                      SV.int IntKind.i64 (0 : Int), SV.vec (4 : Nat) ao1 (List.length gs) cap1, SV.int IntKind.i64 (↑(List.length gs) : Int),
                                                                      SV.bool false, SV.raw (u (83 : Nat)), SV.raw (u (84 : Nat)), SV.int IntKind.i64 (0 : Int), SV.bool false, SV.bool false,
                                                                      SV.ptr (10 : Nat) b_4 (0 : Nat), SV.int IntKind.i64 (List.getD cs (0 : Nat) ((0 : Int), ByteArray.empty)).1,
                                                                      SV.vec (4 : Nat) ao1 (List.length gs) cap1, SV.eptr (4 : Nat) (Addr.blkD ao1) (Addr.offD ao1) (1 : Nat) (0 : Nat) (0 : Nat),
                                                                      SV.int IntKind.i64 (List.getD gs (0 : Nat) (0 : Int)),
                                                                      SV.bool ((List.getD cs (0 : Nat) ((0 : Int), ByteArray.empty)).1 != List.getD gs (0 : Nat) (0 : Int)), SV.bool false,
                                                                      SV.vec (4 : Nat) ao1 (List.length gs) cap1, SV.sub (4 : Nat) ao1 cap1 (1 : Nat) (1 : Nat) (List.length gs), SV.raw (u (97 : Nat)),
                                                                      SV.raw (u (98 : Nat)), SV.raw (u (99 : Nat)), SV.raw (u (100 : Nat)), SV.raw (u (101 : Nat)), SV.raw (u (102 : Nat))]
                                                                    [Ent.mk (Loc.sl ao cap) (SObj.roL c0 (1 : Nat) encByte bs (0 : Int)),
                                                                      Ent.mk (Loc.blk b1) (SObj.mapV (@none IntKind) [(Key.s (ByteArray.mk #[(115 : UInt8)]), SV.ptr (3 : Nat) b3 (0 : Nat))]),
                                                                      Ent.mk (Loc.blk b2)
                                                                        (SObj.cells [SV.map (1 : Nat) b1, SV.raw (Value.slice (@none Addr) (0 : Nat) (0 : Nat)), SV.int IntKind.i64 last]
                                                                          (120 : TypeId)),
                                                                      Ent.mk (Loc.blk b3) (SObj.cells [SV.sub (5 : Nat) ao2 cap2 (2 : Nat) (1 : Nat) (List.length cs)] (125 : TypeId)),
                                                                      Ent.mk (Loc.sl ao1 cap1) (SObj.vecL (3 : TypeId) (1 : Nat) encInt gs (0 : Int)),
                                                                      Ent.mk (Loc.sl ao2 cap2) (SObj.vecL (52 : TypeId) (2 : Nat) encDg cs ((0 : Int), ByteArray.empty)),
                                                                      Ent.mk (Loc.blk b)
                                                                        (SObj.cells
                                                                          [SV.int IntKind.i64 (List.getD cs (0 : Nat) ((0 : Int), ByteArray.empty)).1,
                                                                            SV.str (List.getD cs (0 : Nat) ((0 : Int), ByteArray.empty)).snd]
                                                                          (52 : Nat)),
                                                                      Ent.mk (Loc.blk b_1)
                                                                        (SObj.cells
                                                                          [SV.int IntKind.i64 (List.getD cs (0 : Nat) ((0 : Int), ByteArray.empty)).1,
                                                                            SV.str (List.getD cs (0 : Nat) ((0 : Int), ByteArray.empty)).snd]
                                                                          (52 : Nat)),
                                                                      Ent.mk (Loc.blk b_2)
                                                                        (SObj.cells
                                                                          [SV.int IntKind.i64 (List.getD cs (0 : Nat) ((0 : Int), ByteArray.empty)).1,
                                                                            SV.str (List.getD cs (0 : Nat) ((0 : Int), ByteArray.empty)).snd]
                                                                          (52 : Nat)),
                                                                      Ent.mk (Loc.blk b_3)
                                                                        (SObj.cells
                                                                          [SV.int IntKind.i64 (List.getD cs (0 : Nat) ((0 : Int), ByteArray.empty)).1,
                                                                            SV.str (List.getD cs (0 : Nat) ((0 : Int), ByteArray.empty)).snd]
                                                                          (52 : Nat)),
                                                                      Ent.mk (Loc.blk b_4)
                                                                        (SObj.cells
                                                                          [SV.int IntKind.i64 (List.getD cs (0 : Nat) ((0 : Int), ByteArray.empty)).1,
                                                                            SV.str (List.getD cs (0 : Nat) ((0 : Int), ByteArray.empty)).snd]
                                                                          (52 : Nat))])) := by kernel_rfl

theorem po_close (K : List Frm → Sy → Prop) (N : List Ent → SV → Prop) (J : Act → World → Prop) (u : Nat → Value) (c0 : Ch) (cap cap1 cap2 b1 b2 b3 : Nat) (ao ao1 ao2 : Option Addr) (bs gs : List Int) (cs : List (Int × ByteArray)) (i last : Int) : (run Try.prog port4 false [39] K (retP Try.prog Try.f8.results.toList N) 900 (frmR [J] (bodyOf Try.f8) 14) ⟨mkT u 103 0 (poLive ao bs cap b2 gs ao1 cap1 last i), poHeap c0 ao bs cap b1 b2 b3 gs ao1 cap1 cs ao2 cap2 last⟩) = (
true = true ∧
  b2 = b2 ∧
    (b1 = b1 ∧ @none IntKind = @none IntKind ∧ @none IntKind = @none IntKind) ∧
      b2 = b2 ∧
        (b1 = b1 ∧ @none IntKind = @none IntKind ∧ @none IntKind = @none IntKind) ∧
          true = true ∧
            b2 = b2 ∧
              (b1 = b1 ∧ @none IntKind = @none IntKind ∧ @none IntKind = @none IntKind) ∧
                b2 = b2 ∧
                  (true = true ∧ true = true) ∧
                    true = true ∧
                      ∀ (b : Nat),
                        (b1 = b1 ∧ @none IntKind = @none IntKind ∧ @none IntKind = @none IntKind) ∧
                          K (frmR [J] (bodyOf Try.f8) (39 : Nat))
                            (Sy.mk
                              [SV.vec (0 : Nat) ao (List.length bs) cap, SV.raw (u (1 : Nat)), SV.bool false, SV.ptr (2 : Nat) b2 (0 : Nat), SV.raw (Value.slice (@none Addr) (0 : Nat) (0 : Nat)),
                                SV.int IntKind.i64 last, SV.int IntKind.i64 i, SV.raw (u (7 : Nat)), SV.raw (u (8 : Nat)), SV.raw (u (9 : Nat)), SV.raw (u (10 : Nat)), SV.raw (u (11 : Nat)),
                                SV.raw (u (12 : Nat)), SV.raw (u (13 : Nat)), SV.raw (u (14 : Nat)), SV.raw (u (15 : Nat)), SV.raw (u (16 : Nat)), SV.raw (u (17 : Nat)), SV.raw (u (18 : Nat)),
                                SV.raw (u (19 : Nat)), SV.raw (u (20 : Nat)), SV.raw (u (21 : Nat)), SV.raw (u (22 : Nat)), SV.raw (u (23 : Nat)), SV.raw (u (24 : Nat)), SV.raw (u (25 : Nat)),
                                SV.raw (u (26 : Nat)), SV.raw (u (27 : Nat)), SV.raw (u (28 : Nat)), SV.raw (u (29 : Nat)), SV.raw (u (30 : Nat)), SV.ptr (2 : Nat) b2 (0 : Nat),
                                SV.int IntKind.i64 (0 : Int), SV.bool false, SV.bool false, SV.ptr (2 : Nat) b2 (0 : Nat), SV.int IntKind.i64 (0 : Int), SV.bool false, SV.bool false,
                                SV.raw (u (39 : Nat)), SV.raw (u (40 : Nat)), SV.raw (u (41 : Nat)), SV.raw (u (42 : Nat)), SV.raw (u (43 : Nat)), SV.raw (u (44 : Nat)), SV.raw (u (45 : Nat)),
                                SV.raw (u (46 : Nat)), SV.raw (u (47 : Nat)), SV.raw (u (48 : Nat)), SV.raw (u (49 : Nat)), SV.raw (u (50 : Nat)), SV.raw (u (51 : Nat)), SV.raw (u (52 : Nat)),
                                SV.raw (u (53 : Nat)), SV.raw (u (54 : Nat)), SV.raw (u (55 : Nat)), SV.raw (u (56 : Nat)), SV.raw (u (57 : Nat)), SV.raw (u (58 : Nat)), SV.raw (u (59 : Nat)),
                                SV.raw (u (60 : Nat)), SV.raw (u (61 : Nat)), SV.raw (u (62 : Nat)), SV.raw (u (63 : Nat)), SV.raw (u (64 : Nat)), SV.raw (u (65 : Nat)), SV.raw (u (66 : Nat)),
                                SV.raw (u (67 : Nat)), SV.raw (u (68 : Nat)), SV.raw (u (69 : Nat)), SV.raw (u (70 : Nat)), SV.raw (u (71 : Nat)), SV.raw (u (72 : Nat)), SV.raw (u (73 : Nat)),
                                SV.raw (u (74 : Nat)), SV.raw (u (75 : Nat)), SV.raw (u (76 : Nat)), SV.raw (u (77 : Nat)), SV.raw (u (78 : Nat)), SV.raw (u (79 : Nat)), SV.raw (u (80 : Nat)),
                                SV.raw (u (81 : Nat)), SV.raw (u (82 : Nat)), SV.raw (u (83 : Nat)), SV.raw (u (84 : Nat)), SV.raw (u (85 : Nat)), SV.raw (u (86 : Nat)), SV.raw (u (87 : Nat)),
                                SV.raw (u (88 : Nat)), SV.raw (u (89 : Nat)), SV.raw (u (90 : Nat)), SV.raw (u (91 : Nat)), SV.raw (u (92 : Nat)), SV.raw (u (93 : Nat)), SV.raw (u (94 : Nat)),
                                SV.raw (u (95 : Nat)), SV.raw (u (96 : Nat)), SV.raw (u (97 : Nat)), SV.raw (u (98 : Nat)), SV.raw (u (99 : Nat)), SV.raw (u (100 : Nat)), SV.raw (u (101 : Nat)),
                                SV.raw (u (102 : Nat))]
                              [Ent.mk (Loc.sl ao cap) (SObj.roL c0 (1 : Nat) encByte bs (0 : Int)),
                                Ent.mk (Loc.blk b1) (SObj.mapV (@none IntKind) [(Key.s (ByteArray.mk #[(115 : UInt8)]), SV.ptr (6 : Nat) b (0 : Nat))]),
                                Ent.mk (Loc.blk b2) (SObj.cells [SV.map (1 : Nat) b1, SV.raw (Value.slice (@none Addr) (0 : Nat) (0 : Nat)), SV.int IntKind.i64 last] (120 : TypeId)),
                                Ent.mk (Loc.blk b3) (SObj.cells [SV.vec (5 : Nat) ao2 (List.length cs) cap2] (125 : TypeId)),
                                Ent.mk (Loc.sl ao1 cap1) (SObj.vecL (3 : TypeId) (1 : Nat) encInt gs (0 : Int)),
                                Ent.mk (Loc.sl ao2 cap2) (SObj.vecL (52 : TypeId) (2 : Nat) encDg cs ((0 : Int), ByteArray.empty)),
                                Ent.mk (Loc.blk b) (SObj.cells [SV.raw (Value.slice (@none Addr) (0 : Nat) (0 : Nat))] (125 : Nat))])) := by kernel_rfl

theorem po_tail (K : List Frm → Sy → Prop) (N : List Ent → SV → Prop) (J : Act → World → Prop) (u : Nat → Value) (c0 : Ch) (cap cap1 cap2 b1 b2 b3 : Nat) (ao ao1 ao2 : Option Addr) (bs gs : List Int) (cs : List (Int × ByteArray)) (i last : Int) : (run Try.prog port4 false [] K (retP Try.prog Try.f8.results.toList N) 900 (frmR [J] (bodyOf Try.f8) 39) ⟨mkT u 103 0 (poLive ao bs cap b2 gs ao1 cap1 last i), poHeap c0 ao bs cap b1 b2 b3 gs ao1 cap1 cs ao2 cap2 last⟩) = (
true = true ∧
  b2 = b2 ∧
    (b1 = b1 ∧ @none IntKind = @none IntKind ∧ @none IntKind = @none IntKind) ∧
      b3 = b3 ∧
        true = true ∧
          match Option.isNone ao2 with
          | true =>
            match (0 : Int) != (↑(List.length gs) : Int) with
            | true =>
              N
                [Ent.mk (Loc.sl ao cap) (SObj.roL c0 (1 : Nat) encByte bs (0 : Int)),
                  Ent.mk (Loc.blk b1) (SObj.mapV (@none IntKind) [(Key.s (ByteArray.mk #[(115 : UInt8)]), SV.ptr (3 : Nat) b3 (0 : Nat))]),
                  Ent.mk (Loc.blk b2) (SObj.cells [SV.map (1 : Nat) b1, SV.raw (Value.slice (@none Addr) (0 : Nat) (0 : Nat)), SV.int IntKind.i64 last] (120 : TypeId)),
                  Ent.mk (Loc.blk b3) (SObj.cells [SV.vec (5 : Nat) ao2 (List.length cs) cap2] (125 : TypeId)), Ent.mk (Loc.sl ao1 cap1) (SObj.vecL (3 : TypeId) (1 : Nat) encInt gs (0 : Int)),
                  Ent.mk (Loc.sl ao2 cap2) (SObj.vecL (52 : TypeId) (2 : Nat) encDg cs ((0 : Int), ByteArray.empty))]
                (SV.bool false)
            | false =>
              K (Frm.loop J :: Frm.blk (0 : Nat) :: frm [] (bodyOf Try.f8) [(1 : Nat), (1 : Nat), (1 : Nat), (1 : Nat), (1 : Nat), (1 : Nat), (1 : Nat), (1 : Nat)] [])
                (Sy.mk
                  [SV.vec (0 : Nat) ao (List.length bs) cap, SV.raw (u (1 : Nat)), SV.bool false, SV.ptr (2 : Nat) b2 (0 : Nat), SV.vec (4 : Nat) ao1 (List.length gs) cap1, SV.int IntKind.i64 last,
                    SV.int IntKind.i64 (IntKind.wrap IntKind.i64 (i + (1 : Int))), SV.raw (u (7 : Nat)), SV.raw (u (8 : Nat)), SV.raw (u (9 : Nat)), SV.raw (u (10 : Nat)), SV.raw (u (11 : Nat)),
                    SV.raw (u (12 : Nat)), SV.raw (u (13 : Nat)), SV.raw (u (14 : Nat)), SV.raw (u (15 : Nat)), SV.raw (u (16 : Nat)), SV.raw (u (17 : Nat)), SV.raw (u (18 : Nat)),
                    SV.raw (u (19 : Nat)), SV.raw (u (20 : Nat)), SV.raw (u (21 : Nat)), SV.raw (u (22 : Nat)), SV.raw (u (23 : Nat)), SV.int IntKind.i64 i,
                    SV.int IntKind.i64 (IntKind.wrap IntKind.i64 (i + (1 : Int))), SV.raw (u (26 : Nat)), SV.raw (u (27 : Nat)), SV.raw (u (28 : Nat)), SV.raw (u (29 : Nat)), SV.raw (u (30 : Nat)),
                    SV.raw (u (31 : Nat)), SV.raw (u (32 : Nat)), SV.raw (u (33 : Nat)), SV.raw (u (34 : Nat)), SV.raw (u (35 : Nat)), SV.raw (u (36 : Nat)), SV.raw (u (37 : Nat)),
                    SV.raw (u (38 : Nat)), SV.raw (u (39 : Nat)), SV.raw (u (40 : Nat)), SV.raw (u (41 : Nat)), SV.raw (u (42 : Nat)), SV.raw (u (43 : Nat)), SV.raw (u (44 : Nat)),
                    SV.raw (u (45 : Nat)), SV.raw (u (46 : Nat)), SV.raw (u (47 : Nat)), SV.raw (u (48 : Nat)), SV.raw (u (49 : Nat)), SV.raw (u (50 : Nat)), SV.raw (u (51 : Nat)),
                    SV.raw (u (52 : Nat)), SV.raw (u (53 : Nat)), SV.raw (u (54 : Nat)), SV.raw (u (55 : Nat)), SV.raw (u (56 : Nat)), SV.raw (u (57 : Nat)), SV.raw (u (58 : Nat)),
                    SV.raw (u (59 : Nat)), SV.raw (u (60 : Nat)), SV.raw (u (61 : Nat)), SV.raw (u (62 : Nat)), SV.raw (u (63 : Nat)), SV.raw (u (64 : Nat)), SV.raw (u (65 : Nat)),
                    SV.raw (u (66 : Nat)), SV.raw (u (67 : Nat)), SV.raw (u (68 : Nat)), SV.raw (u (69 : Nat)), SV.raw (u (70 : Nat)), SV.raw (u (71 : Nat)), SV.raw (u (72 : Nat)),
                    SV.raw (u (73 : Nat)), SV.raw (u (74 : Nat)), SV.raw (u (75 : Nat)), SV.raw (u (76 : Nat)), SV.raw (u (77 : Nat)), SV.raw (u (78 : Nat)), SV.raw (u (79 : Nat)),
                    SV.raw (u (80 : Nat)), SV.raw (u (81 : Nat)), SV.raw (u (82 : Nat)), SV.raw (u (83 : Nat)), SV.raw (u (84 : Nat)), SV.raw (u (85 : Nat)), SV.raw (u (86 : Nat)),
                    SV.raw (u (87 : Nat)), SV.raw (u (88 : Nat)), SV.raw (u (89 : Nat)), SV.raw (u (90 : Nat)), SV.raw (u (91 : Nat)), SV.raw (u (92 : Nat)), SV.raw (u (93 : Nat)),
                    SV.raw (u (94 : Nat)), SV.raw (u (95 : Nat)), SV.raw (u (96 : Nat)), SV.ptr (2 : Nat) b2 (0 : Nat), SV.raw (Value.slice (@none Addr) (0 : Nat) (0 : Nat)),
                    SV.int IntKind.i64 (0 : Int), SV.vec (4 : Nat) ao1 (List.length gs) cap1, SV.int IntKind.i64 (↑(List.length gs) : Int), SV.bool false]
                  [Ent.mk (Loc.sl ao cap) (SObj.roL c0 (1 : Nat) encByte bs (0 : Int)),
                    Ent.mk (Loc.blk b1) (SObj.mapV (@none IntKind) [(Key.s (ByteArray.mk #[(115 : UInt8)]), SV.ptr (3 : Nat) b3 (0 : Nat))]),
                    Ent.mk (Loc.blk b2) (SObj.cells [SV.map (1 : Nat) b1, SV.raw (Value.slice (@none Addr) (0 : Nat) (0 : Nat)), SV.int IntKind.i64 last] (120 : TypeId)),
                    Ent.mk (Loc.blk b3) (SObj.cells [SV.vec (5 : Nat) ao2 (List.length cs) cap2] (125 : TypeId)), Ent.mk (Loc.sl ao1 cap1) (SObj.vecL (3 : TypeId) (1 : Nat) encInt gs (0 : Int)),
                    Ent.mk (Loc.sl ao2 cap2) (SObj.vecL (52 : TypeId) (2 : Nat) encDg cs ((0 : Int), ByteArray.empty))])
          | false =>
            ∀ (b : Nat),
              (some (Addr.mk b (0 : Nat) (@none Nat)) = some (Addr.mk b (0 : Nat) (@none Nat)) ∧
                  (0 : Nat) = (0 : Nat) ∧
                    (0 : Nat) = (0 : Nat) ∧
                      (0 : Nat) = (0 : Nat) ∧
                        (0 : Nat) = (0 : Nat) ∧
                          ao2 = ao2 ∧
                            (52 : Nat) = (52 : Nat) ∧
                              (2 : Nat) = (2 : Nat) ∧
                                (2 : Nat) = (2 : Nat) ∧ List.length cs = List.length cs ∧ List.length cs * (24 : Nat) ≤ (140737488355328 : Nat) ∧ List.length cs ≤ (9223372036854775807 : Nat)) ∧
                ∀ (ao2_1 : Option Addr) (cap2_1 : Nat),
                  List.length cs ≤ cap2_1 →
                    match (↑(List.length cs) : Int) != (↑(List.length gs) : Int) with
                    | true =>
                      N
                        [Ent.mk (Loc.sl ao cap) (SObj.roL c0 (1 : Nat) encByte bs (0 : Int)),
                          Ent.mk (Loc.blk b1) (SObj.mapV (@none IntKind) [(Key.s (ByteArray.mk #[(115 : UInt8)]), SV.ptr (3 : Nat) b3 (0 : Nat))]),
                          Ent.mk (Loc.blk b2) (SObj.cells [SV.map (1 : Nat) b1, SV.raw (Value.slice (@none Addr) (0 : Nat) (0 : Nat)), SV.int IntKind.i64 last] (120 : TypeId)),
                          Ent.mk (Loc.blk b3) (SObj.cells [SV.vec (5 : Nat) ao2 (List.length cs) cap2] (125 : TypeId)), Ent.mk (Loc.sl ao1 cap1) (SObj.vecL (3 : TypeId) (1 : Nat) encInt gs (0 : Int)),
                          Ent.mk (Loc.sl ao2 cap2) (SObj.vecL (52 : TypeId) (2 : Nat) encDg cs ((0 : Int), ByteArray.empty)),
                          Ent.mk (Loc.sl ao2_1 cap2_1) (SObj.vecL (52 : Nat) (2 : Nat) encDg cs ((0 : Int), ByteArray.empty))]
                        (SV.bool false)
                    | false =>
                      K (Frm.loop J :: Frm.blk (0 : Nat) :: frm [] (bodyOf Try.f8) [(1 : Nat), (1 : Nat), (1 : Nat), (1 : Nat), (1 : Nat), (1 : Nat), (1 : Nat), (1 : Nat)] [])
                        (Sy.mk
                          [SV.vec (0 : Nat) ao (List.length bs) cap, SV.raw (u (1 : Nat)), SV.bool false, SV.ptr (2 : Nat) b2 (0 : Nat), SV.vec (4 : Nat) ao1 (List.length gs) cap1,
                            SV.int IntKind.i64 last, SV.int IntKind.i64 (IntKind.wrap IntKind.i64 (i + (1 : Int))), SV.raw (u (7 : Nat)), SV.raw (u (8 : Nat)), SV.raw (u (9 : Nat)),
                            SV.raw (u (10 : Nat)), SV.raw (u (11 : Nat)), SV.raw (u (12 : Nat)), SV.raw (u (13 : Nat)), SV.raw (u (14 : Nat)), SV.raw (u (15 : Nat)), SV.raw (u (16 : Nat)),
                            SV.raw (u (17 : Nat)), SV.raw (u (18 : Nat)), SV.raw (u (19 : Nat)), SV.raw (u (20 : Nat)), SV.raw (u (21 : Nat)), SV.raw (u (22 : Nat)), SV.raw (u (23 : Nat)),
                            SV.int IntKind.i64 i, SV.int IntKind.i64 (IntKind.wrap IntKind.i64 (i + (1 : Int))), SV.raw (u (26 : Nat)), SV.raw (u (27 : Nat)), SV.raw (u (28 : Nat)),
                            SV.raw (u (29 : Nat)), SV.raw (u (30 : Nat)), SV.raw (u (31 : Nat)), SV.raw (u (32 : Nat)), SV.raw (u (33 : Nat)), SV.raw (u (34 : Nat)), SV.raw (u (35 : Nat)),
                            SV.raw (u (36 : Nat)), SV.raw (u (37 : Nat)), SV.raw (u (38 : Nat)), SV.raw (u (39 : Nat)), SV.raw (u (40 : Nat)), SV.raw (u (41 : Nat)), SV.raw (u (42 : Nat)),
                            SV.raw (u (43 : Nat)), SV.raw (u (44 : Nat)), SV.raw (u (45 : Nat)), SV.raw (u (46 : Nat)), SV.raw (u (47 : Nat)), SV.raw (u (48 : Nat)), SV.raw (u (49 : Nat)),
                            SV.raw (u (50 : Nat)), SV.raw (u (51 : Nat)), SV.raw (u (52 : Nat)), SV.raw (u (53 : Nat)), SV.raw (u (54 : Nat)), SV.raw (u (55 : Nat)), SV.raw (u (56 : Nat)),
                            SV.raw (u (57 : Nat)), SV.raw (u (58 : Nat)), SV.raw (u (59 : Nat)), SV.raw (u (60 : Nat)), SV.raw (u (61 : Nat)), SV.raw (u (62 : Nat)), SV.raw (u (63 : Nat)),
                            SV.raw (u (64 : Nat)), SV.raw (u (65 : Nat)), SV.raw (u (66 : Nat)), SV.raw (u (67 : Nat)), SV.raw (u (68 : Nat)), SV.raw (u (69 : Nat)), SV.raw (u (70 : Nat)),
                            SV.raw (u (71 : Nat)), SV.raw (u (72 : Nat)), SV.raw (u (73 : Nat)), SV.raw (u (74 : Nat)), SV.raw (u (75 : Nat)), SV.raw (u (76 : Nat)), SV.raw (u (77 : Nat)),
                            SV.raw (u (78 : Nat)), SV.raw (u (79 : Nat)), SV.raw (u (80 : Nat)), SV.raw (u (81 : Nat)), SV.raw (u (82 : Nat)), SV.raw (u (83 : Nat)), SV.raw (u (84 : Nat)),
                            SV.raw (u (85 : Nat)), SV.raw (u (86 : Nat)), SV.raw (u (87 : Nat)), SV.raw (u (88 : Nat)), SV.raw (u (89 : Nat)), SV.raw (u (90 : Nat)), SV.raw (u (91 : Nat)),
                            SV.raw (u (92 : Nat)), SV.raw (u (93 : Nat)), SV.raw (u (94 : Nat)), SV.raw (u (95 : Nat)), SV.raw (u (96 : Nat)), SV.ptr (2 : Nat) b2 (0 : Nat),
                            SV.vec (6 : Nat) ao2_1 (List.length cs) cap2_1, SV.int IntKind.i64 (↑(List.length cs) : Int), SV.vec (4 : Nat) ao1 (List.length gs) cap1,
                            SV.int IntKind.i64 (↑(List.length gs) : Int), SV.bool false]
                          [Ent.mk (Loc.sl ao cap) (SObj.roL c0 (1 : Nat) encByte bs (0 : Int)),
                            Ent.mk (Loc.blk b1) (SObj.mapV (@none IntKind) [(Key.s (ByteArray.mk #[(115 : UInt8)]), SV.ptr (3 : Nat) b3 (0 : Nat))]),
                            Ent.mk (Loc.blk b2) (SObj.cells [SV.map (1 : Nat) b1, SV.raw (Value.slice (@none Addr) (0 : Nat) (0 : Nat)), SV.int IntKind.i64 last] (120 : TypeId)),
                            Ent.mk (Loc.blk b3) (SObj.cells [SV.vec (5 : Nat) ao2 (List.length cs) cap2] (125 : TypeId)),
                            Ent.mk (Loc.sl ao1 cap1) (SObj.vecL (3 : TypeId) (1 : Nat) encInt gs (0 : Int)),
                            Ent.mk (Loc.sl ao2 cap2) (SObj.vecL (52 : TypeId) (2 : Nat) encDg cs ((0 : Int), ByteArray.empty)),
                            Ent.mk (Loc.sl ao2_1 cap2_1) (SObj.vecL (52 : Nat) (2 : Nat) encDg cs ((0 : Int), ByteArray.empty))])) := by kernel_rfl


end Go.Proofs.Ytjnkfgigpapeaaa
