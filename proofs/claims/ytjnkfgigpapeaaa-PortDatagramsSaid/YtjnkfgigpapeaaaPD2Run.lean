import Derived.Test.YtjnkfgigpapeaaaPortC
import Derived.Test.YtjnkfgigpapeaaaTab
namespace Go.Proofs.Ytjnkfgigpapeaaa
set_option linter.unusedVariables false
open Go Go.RowKit
set_option maxHeartbeats 0
set_option maxRecDepth 100000

theorem pd_start (K : List Frm → Sy → Prop) (N : List Ent → SV → Prop) (c0 : Ch) (cap : Nat) (ao : Option Addr) (bs : List Int) : (run Try.prog port3 false [] K (retP Try.prog Try.f5.results.toList N) 600 [.code (bodyOf Try.f5)] ⟨padTo 84 [.vec 0 ao bs.length cap], [⟨.sl ao cap, .roL c0 1 encByte bs 0⟩]⟩) = (
true = true ∧
  match decide ((↑(List.length bs) : Int) > (80 : Int)) with
  | true => N [Ent.mk (Loc.sl ao cap) (SObj.roL c0 (1 : Nat) encByte bs (0 : Int))] (SV.bool true)
  | false =>
    true = true ∧
      ∀ (b : Nat),
        (true = true ∧ true = true) ∧
          true = true ∧
            ∀ (b_1 : Nat),
              K
                [Frm.code (codeAt (bodyOf Try.f5) [(1 : Nat), (1 : Nat), (1 : Nat), (1 : Nat), (1 : Nat), (0 : Nat), (1 : Nat), (0 : Nat)]), Frm.blk (0 : Nat),
                  Frm.code (codeAt (bodyOf Try.f5) [(1 : Nat), (1 : Nat), (1 : Nat), (1 : Nat), (1 : Nat), (1 : Nat)])]
                (Sy.mk
                  [SV.vec (0 : Nat) ao (List.length bs) cap, SV.raw (Value.tuple #[]), SV.bool false, SV.ptr (2 : Nat) b_1 (0 : Nat), SV.raw (Value.slice (@none Addr) (0 : Nat) (0 : Nat)),
                    SV.int IntKind.i64 (0 : Int), SV.raw (Value.tuple #[]), SV.raw (Value.tuple #[]), SV.raw (Value.tuple #[]), SV.bool true, SV.bool false, SV.vec (0 : Nat) ao (List.length bs) cap,
                    SV.int IntKind.i64 (↑(List.length bs) : Int), SV.bool false, SV.ptr (2 : Nat) b_1 (0 : Nat), SV.raw (Value.tuple #[]), SV.raw (Value.tuple #[]), SV.raw (Value.tuple #[]),
                    SV.raw (Value.tuple #[]), SV.raw (Value.tuple #[]), SV.raw (Value.tuple #[]), SV.raw (Value.tuple #[]), SV.raw (Value.tuple #[]), SV.raw (Value.tuple #[]),
                    SV.raw (Value.tuple #[]), SV.raw (Value.tuple #[]), SV.raw (Value.tuple #[]), SV.raw (Value.tuple #[]), SV.raw (Value.tuple #[]), SV.raw (Value.tuple #[]),
                    SV.raw (Value.tuple #[]), SV.raw (Value.tuple #[]), SV.raw (Value.tuple #[]), SV.raw (Value.tuple #[]), SV.raw (Value.tuple #[]), SV.raw (Value.tuple #[]),
                    SV.raw (Value.tuple #[]), SV.raw (Value.tuple #[]), SV.raw (Value.tuple #[]), SV.raw (Value.tuple #[]), SV.raw (Value.tuple #[]), SV.raw (Value.tuple #[]),
                    SV.raw (Value.tuple #[]), SV.raw (Value.tuple #[]), SV.raw (Value.tuple #[]), SV.raw (Value.tuple #[]), SV.raw (Value.tuple #[]), SV.raw (Value.tuple #[]),
                    SV.raw (Value.tuple #[]), SV.raw (Value.tuple #[]), SV.raw (Value.tuple #[]), SV.raw (Value.tuple #[]), SV.raw (Value.tuple #[]), SV.raw (Value.tuple #[]),
                    SV.raw (Value.tuple #[]), SV.raw (Value.tuple #[]), SV.raw (Value.tuple #[]), SV.raw (Value.tuple #[]), SV.raw (Value.tuple #[]), SV.raw (Value.tuple #[]),
                    SV.raw (Value.tuple #[]), SV.raw (Value.tuple #[]), SV.raw (Value.tuple #[]), SV.raw (Value.tuple #[]), SV.raw (Value.tuple #[]), SV.raw (Value.tuple #[]),
                    SV.raw (Value.tuple #[]), SV.raw (Value.tuple #[]), SV.raw (Value.tuple #[]), SV.raw (Value.tuple #[]), SV.raw (Value.tuple #[]), SV.raw (Value.tuple #[]),
                    SV.raw (Value.tuple #[]), SV.raw (Value.tuple #[]), SV.raw (Value.tuple #[]), SV.raw (Value.tuple #[]), SV.raw (Value.tuple #[]), SV.raw (Value.tuple #[]),
                    SV.raw (Value.tuple #[]), SV.raw (Value.tuple #[]), SV.raw (Value.tuple #[]), SV.raw (Value.tuple #[]), SV.raw (Value.tuple #[]), SV.raw (Value.tuple #[])]
                  [Ent.mk (Loc.sl ao cap) (SObj.roL c0 (1 : Nat) encByte bs (0 : Int)), Ent.mk (Loc.blk b) (SObj.mapV (@none IntKind) []),
                    Ent.mk (Loc.blk b_1) (SObj.cells [SV.map (1 : Nat) b, SV.raw (Value.slice (@none Addr) (0 : Nat) (0 : Nat)), SV.int IntKind.i64 (0 : Int)] (120 : Nat))])) := by kernel_rfl

theorem pd_loop (K : List Frm → Sy → Prop) (N : List Ent → SV → Prop) (J : Act → World → Prop) (u : Nat → Value) (c0 : Ch) (cap cap1 cap2 b1 b2 : Nat) (ao ao1 ao2 : Option Addr) (bs gs : List Int) (ds : List (Int × ByteArray)) (i : Int) : (run Try.prog port3 false [] K (retP Try.prog Try.f5.results.toList N) 900 [.code (codeAt (bodyOf Try.f5) [1, 1, 1, 1, 1, 0, 1, 0, 0]), .loop J, .blk 0, .code (codeAt (bodyOf Try.f5) [1, 1, 1, 1, 1, 1])] ⟨mkT u 84 0 [(0, .vec 0 ao bs.length cap), (2, .bool false), (3, .ptr 2 b2 0), (4, .vec 3 ao1 gs.length cap1), (5, .int .i64 i)], [⟨.sl ao cap, .roL c0 1 encByte bs 0⟩, ⟨.blk b1, .mapV none []⟩, ⟨.blk b2, .cells [.map 1 b1, .vec 4 ao2 ds.length cap2, .int .i64 0] 120⟩, ⟨.sl ao1 cap1, .vecL 3 1 encInt gs 0⟩, ⟨.sl ao2 cap2, .vecL 42 2 encDg ds (0, .empty)⟩]⟩) = (
match decide (i < (↑(List.length bs) : Int)) with
| true =>
  (ao = ao ∧ cap = cap ∧ List.length bs = List.length bs ∧ (0 : Int) ≤ i ∧ i < (↑(List.length bs) : Int)) ∧
    (Addr.blkD ao = Addr.blkD ao ∧ Addr.offD ao = Addr.offD ao ∧ (1 : Nat) = (1 : Nat) ∧ Int.toNat i < List.length bs) ∧
      (3 : Int) ≠ (0 : Int) ∧
        match decide (Int.tmod (List.getD bs (Int.toNat i) (0 : Int)) (3 : Int) < (2 : Int)) with
        | true =>
          true = true ∧
            (true = true ∧ true = true) ∧
              true = true ∧
                true = true ∧
                  ∀ (b : Nat),
                    b2 = b2 ∧
                      match decide ((↑(List.length ds) : Int) ≥ (16 : Int)) with
                      | true =>
                        match !false == decide ((↑(List.length gs) : Int) < (16 : Int)) with
                        | true =>
                          true = true ∧
                            true = true ∧
                              N
                                [Ent.mk (Loc.sl ao cap) (SObj.roL c0 (1 : Nat) encByte bs (0 : Int)), Ent.mk (Loc.blk b1) (SObj.mapV (@none IntKind) []),
                                  Ent.mk (Loc.blk b2) (SObj.cells [SV.map (1 : Nat) b1, SV.vec (4 : Nat) ao2 (List.length ds) cap2, SV.int IntKind.i64 (0 : Int)] (120 : TypeId)),
                                  Ent.mk (Loc.sl ao1 cap1) (SObj.vecL (3 : TypeId) (1 : Nat) encInt gs (0 : Int)),
                                  Ent.mk (Loc.sl ao2 cap2) (SObj.vecL (42 : TypeId) (2 : Nat) encDg ds ((0 : Int), ByteArray.empty)),
                                  Ent.mk (Loc.blk b) (SObj.cells [SV.int IntKind.i64 i, SV.str (ByteArray.mk #[(116 : UInt8)])] (42 : Nat))]
                                (SV.bool false)
                        | false =>
                          K [Frm.loop J, Frm.blk (0 : Nat), Frm.code (codeAt (bodyOf Try.f5) [(1 : Nat), (1 : Nat), (1 : Nat), (1 : Nat), (1 : Nat), (1 : Nat)])]
                            (Sy.mk
                              [SV.vec (0 : Nat) ao (List.length bs) cap, SV.raw (u (1 : Nat)), SV.bool false, SV.ptr (2 : Nat) b2 (0 : Nat), SV.vec (3 : Nat) ao1 (List.length gs) cap1,
                                SV.int IntKind.i64 (IntKind.wrap IntKind.i64 (i + (1 : Int))), SV.int IntKind.i64 (102 : Int), SV.raw (u (7 : Nat)), SV.raw (u (8 : Nat)), SV.raw (u (9 : Nat)),
                                SV.raw (u (10 : Nat)), SV.raw (u (11 : Nat)), SV.raw (u (12 : Nat)), SV.raw (u (13 : Nat)), SV.raw (u (14 : Nat)), SV.int IntKind.i64 i,
                                SV.vec (0 : Nat) ao (List.length bs) cap, SV.int IntKind.i64 (↑(List.length bs) : Int), SV.bool true, SV.int IntKind.i64 i,
                                SV.int IntKind.i64 (IntKind.wrap IntKind.i64 (i + (1 : Int))), SV.vec (0 : Nat) ao (List.length bs) cap, SV.int IntKind.i64 i,
                                SV.eptr (0 : Nat) (Addr.blkD ao) (Addr.offD ao) (1 : Nat) (Int.toNat i) (0 : Nat), SV.int IntKind.u8 (List.getD bs (Int.toNat i) (0 : Int)),
                                SV.int IntKind.u8 (Int.tmod (List.getD bs (Int.toNat i) (0 : Int)) (3 : Int)), SV.bool true, SV.ptr (2 : Nat) b2 (0 : Nat), SV.int IntKind.i64 i,
                                SV.int IntKind.i64 (102 : Int), SV.int IntKind.i64 (102 : Int), SV.bool false, SV.vec (3 : Nat) ao1 (List.length gs) cap1, SV.int IntKind.i64 (↑(List.length gs) : Int),
                                SV.bool (decide ((↑(List.length gs) : Int) < (16 : Int))), SV.bool !false == decide ((↑(List.length gs) : Int) < (16 : Int)), SV.bool false,
                                SV.int IntKind.i64 (102 : Int), SV.bool true, SV.bool true, SV.int IntKind.i64 (102 : Int), SV.bool false, SV.bool false, SV.bool false, SV.int IntKind.i64 (102 : Int),
                                SV.bool false, SV.raw (u (46 : Nat)), SV.raw (u (47 : Nat)), SV.raw (u (48 : Nat)), SV.raw (u (49 : Nat)), SV.raw (u (50 : Nat)), SV.raw (u (51 : Nat)),
                                SV.raw (u (52 : Nat)), SV.raw (u (53 : Nat)), SV.raw (u (54 : Nat)), SV.raw (u (55 : Nat)), SV.raw (u (56 : Nat)), SV.raw (u (57 : Nat)), SV.raw (u (58 : Nat)),
                                SV.raw (u (59 : Nat)), SV.raw (u (60 : Nat)), SV.raw (u (61 : Nat)), SV.raw (u (62 : Nat)), SV.raw (u (63 : Nat)), SV.raw (u (64 : Nat)), SV.raw (u (65 : Nat)),
                                SV.raw (u (66 : Nat)), SV.raw (u (67 : Nat)), SV.raw (u (68 : Nat)), SV.raw (u (69 : Nat)), SV.raw (u (70 : Nat)), SV.raw (u (71 : Nat)), SV.raw (u (72 : Nat)),
                                SV.raw (u (73 : Nat)), SV.raw (u (74 : Nat)), SV.raw (u (75 : Nat)), SV.raw (u (76 : Nat)), SV.raw (u (77 : Nat)), SV.raw (u (78 : Nat)), SV.raw (u (79 : Nat)),
                                SV.raw (u (80 : Nat)), SV.raw (u (81 : Nat)), SV.raw (u (82 : Nat)), SV.raw (u (83 : Nat))]
                              [Ent.mk (Loc.sl ao cap) (SObj.roL c0 (1 : Nat) encByte bs (0 : Int)), Ent.mk (Loc.blk b1) (SObj.mapV (@none IntKind) []),
                                Ent.mk (Loc.blk b2) (SObj.cells [SV.map (1 : Nat) b1, SV.vec (4 : Nat) ao2 (List.length ds) cap2, SV.int IntKind.i64 (0 : Int)] (120 : TypeId)),
                                Ent.mk (Loc.sl ao1 cap1) (SObj.vecL (3 : TypeId) (1 : Nat) encInt gs (0 : Int)),
                                Ent.mk (Loc.sl ao2 cap2) (SObj.vecL (42 : TypeId) (2 : Nat) encDg ds ((0 : Int), ByteArray.empty)),
                                Ent.mk (Loc.blk b) (SObj.cells [SV.int IntKind.i64 i, SV.str (ByteArray.mk #[(116 : UInt8)])] (42 : Nat))])
                      | false =>
                        b2 = b2 ∧
                          (b = b ∧ (2 : Nat) = (2 : Nat)) ∧
                            (true = true ∧ (2 : Nat) = (2 : Nat) ∧ (0 : Nat) < (2 : Nat) ∧ (2 : Nat) ≤ (16777216 : Nat)) ∧
                              ∀ (b_1 : Nat),
                                (Ent.mk (Loc.sl ao cap) (SObj.roL c0 (1 : Nat) encByte bs (0 : Int)) = Ent.mk (Loc.sl ao cap) (SObj.roL c0 (1 : Nat) encByte bs (0 : Int)) ∧
                                    Ent.mk (Loc.blk b1) (SObj.mapV (@none IntKind) []) = Ent.mk (Loc.blk b1) (SObj.mapV (@none IntKind) []) ∧
                                      Ent.mk (Loc.blk b2) (SObj.cells [SV.map (1 : Nat) b1, SV.vec (4 : Nat) ao2 (List.length ds) cap2, SV.int IntKind.i64 (0 : Int)] (120 : TypeId)) =
                                          Ent.mk (Loc.blk b2) (SObj.cells [SV.map (1 : Nat) b1, SV.vec (4 : Nat) ao2 (List.length ds) cap2, SV.int IntKind.i64 (0 : Int)] (120 : TypeId)) ∧
                                        Ent.mk (Loc.sl ao1 cap1) (SObj.vecL (3 : TypeId) (1 : Nat) encInt gs (0 : Int)) =
                                            Ent.mk (Loc.sl ao1 cap1) (SObj.vecL (3 : TypeId) (1 : Nat) encInt gs (0 : Int)) ∧
                                          Ent.mk (Loc.sl ao2 cap2) (SObj.vecL (42 : TypeId) (2 : Nat) encDg ds ((0 : Int), ByteArray.empty)) =
                                              Ent.mk (Loc.sl ao2 cap2) (SObj.vecL (42 : TypeId) (2 : Nat) encDg ds ((0 : Int), ByteArray.empty)) ∧
                                            Ent.mk (Loc.blk b) (SObj.cells [SV.int IntKind.i64 i, SV.str (ByteArray.mk #[(116 : UInt8)])] (42 : Nat)) =
                                                Ent.mk (Loc.blk b) (SObj.cells [SV.int IntKind.i64 i, SV.str (ByteArray.mk #[(116 : UInt8)])] (42 : Nat)) ∧
                                              True) ∧
                                  (ao2 = ao2 ∧
                                      cap2 = cap2 ∧
                                        List.length ds = List.length ds ∧
                                          b_1 = b_1 ∧
                                            (42 : TypeId) = (42 : Nat) ∧
                                              (2 : Nat) = (2 : Nat) ∧
                                                (2 : Nat) = (2 : Nat) ∧
                                                  (0 : Nat) < (1 : Nat) ∧
                                                    true = true ∧ (List.length ds + (1 : Nat)) * (24 : Nat) ≤ (140737488355328 : Nat) ∧ List.length ds + (1 : Nat) ≤ (9223372036854775807 : Nat)) ∧
                                    ∃ (es : List (Int × ByteArray)),
                                      List.length es = (1 : Nat) ∧
                                        List.flatMap encDg es = [SV.int IntKind.i64 i, SV.str (ByteArray.mk #[(116 : UInt8)])] ∧
                                          ∀ (ao2 : Option Addr) (cap2 : Nat),
                                            List.length ds + (1 : Nat) ≤ cap2 →
                                              (b2 = b2 ∧ true = true ∧ (1 : Nat) = (1 : Nat) ∧ (2 : Nat) ≤ (3 : Nat)) ∧
                                                match !true == decide ((↑(List.length gs) : Int) < (16 : Int)) with
                                                | true =>
                                                  true = true ∧
                                                    true = true ∧
                                                      N
                                                        [Ent.mk (Loc.sl ao cap) (SObj.roL c0 (1 : Nat) encByte bs (0 : Int)), Ent.mk (Loc.blk b1) (SObj.mapV (@none IntKind) []),
                                                          Ent.mk (Loc.blk b2)
                                                            (SObj.cells [SV.map (1 : Nat) b1, SV.vec (4 : Nat) ao2 (List.length ds + (1 : Nat)) cap2, SV.int IntKind.i64 (0 : Int)] (120 : TypeId)),
                                                          Ent.mk (Loc.sl ao1 cap1) (SObj.vecL (3 : TypeId) (1 : Nat) encInt gs (0 : Int)),
                                                          Ent.mk (Loc.sl ao2 cap2) (SObj.vecL (42 : TypeId) (2 : Nat) encDg (ds ++ es) ((0 : Int), ByteArray.empty)),
                                                          Ent.mk (Loc.blk b) (SObj.cells [SV.int IntKind.i64 i, SV.str (ByteArray.mk #[(116 : UInt8)])] (42 : Nat)),
                                                          Ent.mk (Loc.blk b_1) (SObj.cells [SV.int IntKind.i64 i, SV.str (ByteArray.mk #[(116 : UInt8)])] (42 : Nat))]
                                                        (SV.bool false)
                                                | false =>
                                                  (true = true ∧ (1 : Nat) = (1 : Nat) ∧ (0 : Nat) < (1 : Nat) ∧ (1 : Nat) ≤ (16777216 : Nat)) ∧
                                                    ∀ (b_2 : Nat),
                                                      (ao1 = ao1 ∧
                                                          cap1 = cap1 ∧
                                                            List.length gs = List.length gs ∧
                                                              b_2 = b_2 ∧
                                                                (3 : TypeId) = (3 : Nat) ∧
                                                                  (1 : Nat) = (1 : Nat) ∧
                                                                    (1 : Nat) = (1 : Nat) ∧
                                                                      (0 : Nat) < (1 : Nat) ∧
                                                                        true = true ∧
                                                                          (List.length gs + (1 : Nat)) * (8 : Nat) ≤ (140737488355328 : Nat) ∧
                                                                            List.length gs + (1 : Nat) ≤ (9223372036854775807 : Nat)) ∧
                                                        ∃ (es_1 : List Int),
                                                          List.length es_1 = (1 : Nat) ∧
                                                            List.flatMap encInt es_1 = [SV.int IntKind.i64 i] ∧
                                                              ∀ (ao2_1 : Option Addr) (cap2_1 : Nat),
                                                                List.length gs + (1 : Nat) ≤ cap2_1 →
                                                                  K
                                                                    [Frm.loop J, Frm.blk (0 : Nat),
                                                                      Frm.code (codeAt (bodyOf Try.f5) [(1 : Nat), (1 : Nat), (1 : Nat), (1 : Nat), (1 : Nat), (1 : Nat)])]
                                                                    (Sy.mk
                                                                      [SV.vec (0 : Nat) ao (List.length bs) cap, SV.raw (u (1 : Nat)), SV.bool false, SV.ptr (2 : Nat) b2 (0 : Nat),
                                                                        SV.vec (3 : Nat) ao2_1 (List.length gs + (1 : Nat)) cap2_1, SV.int IntKind.i64 (IntKind.wrap IntKind.i64 (i + (1 : Int))),
                                                                        SV.int IntKind.i64 (0 : Int), SV.raw (u (7 : Nat)), SV.raw (u (8 : Nat)), SV.raw (u (9 : Nat)), SV.raw (u (10 : Nat)),
                                                                        SV.raw (u (11 : Nat)), SV.raw (u (12 : Nat)), SV.raw (u (13 : Nat)), SV.raw (u (14 : Nat)), SV.int IntKind.i64 i,
                                                                        SV.vec (0 : Nat) ao (List.length bs) cap, SV.int IntKind.i64 (↑(List.length bs) : Int), SV.bool true, SV.int IntKind.i64 i,
                                                                        SV.int IntKind.i64 (IntKind.wrap IntKind.i64 (i + (1 : Int))), SV.vec (0 : Nat) ao (List.length bs) cap, SV.int IntKind.i64 i,
                                                                        SV.eptr (0 : Nat) (Addr.blkD ao) (Addr.offD ao) (1 : Nat) (Int.toNat i) (0 : Nat),
                                                                        SV.int IntKind.u8 (List.getD bs (Int.toNat i) (0 : Int)),
                                                                        SV.int IntKind.u8 (Int.tmod (List.getD bs (Int.toNat i) (0 : Int)) (3 : Int)), SV.bool true, SV.ptr (2 : Nat) b2 (0 : Nat),
                                                                        SV.int IntKind.i64 i, SV.int IntKind.i64 (0 : Int), SV.int IntKind.i64 (0 : Int), SV.bool true,
                                                                        SV.vec (3 : Nat) ao1 (List.length gs) cap1, SV.int IntKind.i64 (↑(List.length gs) : Int),
                                                                        SV.bool (decide ((↑(List.length gs) : Int) < (16 : Int))), SV.bool !true == decide ((↑(List.length gs) : Int) < (16 : Int)),
                                                                        SV.bool false, SV.int IntKind.i64 (0 : Int), SV.bool false, SV.bool false, SV.raw (Value.tuple #[]), SV.raw (Value.tuple #[]),
                                                                        SV.bool false, SV.bool false, SV.int IntKind.i64 (0 : Int), SV.bool true, SV.vec (3 : Nat) ao1 (List.length gs) cap1,
                                                                        SV.int IntKind.i64 i, SV.vec (7 : Nat) (some (Addr.mk b_2 (0 : Nat) (@none Nat))) (1 : Nat) (1 : Nat),
                                                                        SV.vec (3 : Nat) ao2_1 (List.length gs + (1 : Nat)) cap2_1, SV.raw (u (50 : Nat)), SV.raw (u (51 : Nat)), SV.raw (u (52 : Nat)),
                                                                        SV.raw (u (53 : Nat)), SV.raw (u (54 : Nat)), SV.raw (u (55 : Nat)), SV.raw (u (56 : Nat)), SV.raw (u (57 : Nat)),
                                                                        SV.raw (u (58 : Nat)), SV.raw (u (59 : Nat)), SV.raw (u (60 : Nat)), SV.raw (u (61 : Nat)), SV.raw (u (62 : Nat)),
                                                                        SV.raw (u (63 : Nat)), SV.raw (u (64 : Nat)), SV.raw (u (65 : Nat)), SV.raw (u (66 : Nat)), SV.raw (u (67 : Nat)),
                                                                        SV.raw (u (68 : Nat)), SV.raw (u (69 : Nat)), SV.raw (u (70 : Nat)), SV.raw (u (71 : Nat)), SV.raw (u (72 : Nat)),
                                                                        SV.raw (u (73 : Nat)), SV.raw (u (74 : Nat)), SV.raw (u (75 : Nat)), SV.raw (u (76 : Nat)), SV.raw (u (77 : Nat)),
                                                                        SV.raw (u (78 : Nat)), SV.raw (u (79 : Nat)), SV.raw (u (80 : Nat)), SV.raw (u (81 : Nat)), SV.raw (u (82 : Nat)),
                                                                        SV.raw (u (83 : Nat))]
                                                                      [Ent.mk (Loc.sl ao cap) (SObj.roL c0 (1 : Nat) encByte bs (0 : Int)), Ent.mk (Loc.blk b1) (SObj.mapV (@none IntKind) []),
                                                                        Ent.mk (Loc.blk b2)
                                                                          (SObj.cells [SV.map (1 : Nat) b1, SV.vec (4 : Nat) ao2 (List.length ds + (1 : Nat)) cap2, SV.int IntKind.i64 (0 : Int)]
                                                                            (120 : TypeId)),
                                                                        Ent.mk (Loc.sl ao2_1 cap2_1) (SObj.vecL (3 : TypeId) (1 : Nat) encInt (gs ++ es_1) (0 : Int)),
                                                                        Ent.mk (Loc.sl ao2 cap2) (SObj.vecL (42 : TypeId) (2 : Nat) encDg (ds ++ es) ((0 : Int), ByteArray.empty)),
                                                                        Ent.mk (Loc.blk b) (SObj.cells [SV.int IntKind.i64 i, SV.str (ByteArray.mk #[(116 : UInt8)])] (42 : Nat)),
                                                                        Ent.mk (Loc.blk b_1) (SObj.cells [SV.int IntKind.i64 i, SV.str (ByteArray.mk #[(116 : UInt8)])] (42 : Nat)),
                                                                        Ent.mk (Loc.blk b_2) (SObj.cells [SV.int IntKind.i64 i] (3 : Nat))])
        | false =>
          true = true ∧
            ∀ (b : Nat),
              true = true ∧
                ∀ (b_1 b_2 : Nat),
                  b2 = b2 ∧
                    match (↑(List.length ds) : Int) == (0 : Int) with
                    | true =>
                      (b_2 = b_2 ∧ (2 : Nat) = (2 : Nat)) ∧
                        (b_1 = b_1 ∧ true = true ∧ (2 : Nat) = (2 : Nat) ∧ (2 : Nat) ≤ (2 : Nat)) ∧
                          (b_1 = b_1 ∧ (2 : Nat) = (2 : Nat)) ∧
                            (b = b ∧ true = true ∧ (2 : Nat) = (2 : Nat) ∧ (2 : Nat) ≤ (2 : Nat)) ∧
                              (b = b ∧ (2 : Nat) = (2 : Nat)) ∧
                                ∀ (b_3 : Nat),
                                  (b_3 = b_3 ∧ true = true ∧ (2 : Nat) = (2 : Nat) ∧ (2 : Nat) ≤ (2 : Nat)) ∧
                                    match !false == decide ((↑(List.length gs) : Int) > (0 : Int)) with
                                    | true =>
                                      true = true ∧
                                        true = true ∧
                                          true = true ∧
                                            true = true ∧
                                              true = true ∧
                                                true = true ∧
                                                  true = true ∧
                                                    true = true ∧
                                                      true = true ∧
                                                        true = true ∧
                                                          true = true ∧
                                                            N
                                                              [Ent.mk (Loc.sl ao cap) (SObj.roL c0 (1 : Nat) encByte bs (0 : Int)), Ent.mk (Loc.blk b1) (SObj.mapV (@none IntKind) []),
                                                                Ent.mk (Loc.blk b2)
                                                                  (SObj.cells [SV.map (1 : Nat) b1, SV.vec (4 : Nat) ao2 (List.length ds) cap2, SV.int IntKind.i64 (0 : Int)] (120 : TypeId)),
                                                                Ent.mk (Loc.sl ao1 cap1) (SObj.vecL (3 : TypeId) (1 : Nat) encInt gs (0 : Int)),
                                                                Ent.mk (Loc.sl ao2 cap2) (SObj.vecL (42 : TypeId) (2 : Nat) encDg ds ((0 : Int), ByteArray.empty)),
                                                                Ent.mk (Loc.blk b) (SObj.cells [SV.int IntKind.i64 (0 : Int), SV.str (ByteArray.mk #[])] (42 : Nat)),
                                                                Ent.mk (Loc.blk b_1) (SObj.cells [SV.int IntKind.i64 (0 : Int), SV.str (ByteArray.mk #[])] (42 : Nat)),
                                                                Ent.mk (Loc.blk b_2) (SObj.cells [SV.int IntKind.i64 (0 : Int), SV.str (ByteArray.mk #[])] (42 : Nat)),
                                                                Ent.mk (Loc.blk b_3) (SObj.cells [SV.int IntKind.i64 (0 : Int), SV.str (ByteArray.mk #[])] (42 : Nat))]
                                                              (SV.bool false)
                                    | false =>
                                      true = true ∧
                                        true = true ∧
                                          true = true ∧
                                            K [Frm.loop J, Frm.blk (0 : Nat), Frm.code (codeAt (bodyOf Try.f5) [(1 : Nat), (1 : Nat), (1 : Nat), (1 : Nat), (1 : Nat), (1 : Nat)])]
                                              (Sy.mk
                                                [SV.vec (0 : Nat) ao (List.length bs) cap, SV.raw (u (1 : Nat)), SV.bool false, SV.ptr (2 : Nat) b2 (0 : Nat),
                                                  SV.vec (3 : Nat) ao1 (List.length gs) cap1, SV.int IntKind.i64 (IntKind.wrap IntKind.i64 (i + (1 : Int))), SV.raw (u (6 : Nat)),
                                                  SV.ptr (8 : Nat) b_3 (0 : Nat), SV.bool false, SV.raw (u (9 : Nat)), SV.raw (u (10 : Nat)), SV.raw (u (11 : Nat)), SV.raw (u (12 : Nat)),
                                                  SV.raw (u (13 : Nat)), SV.raw (u (14 : Nat)), SV.int IntKind.i64 i, SV.vec (0 : Nat) ao (List.length bs) cap,
                                                  SV.int IntKind.i64 (↑(List.length bs) : Int), SV.bool true, SV.int IntKind.i64 i, SV.int IntKind.i64 (IntKind.wrap IntKind.i64 (i + (1 : Int))),
                                                  SV.vec (0 : Nat) ao (List.length bs) cap, SV.int IntKind.i64 i, SV.eptr (0 : Nat) (Addr.blkD ao) (Addr.offD ao) (1 : Nat) (Int.toNat i) (0 : Nat),
                                                  SV.int IntKind.u8 (List.getD bs (Int.toNat i) (0 : Int)), SV.int IntKind.u8 (Int.tmod (List.getD bs (Int.toNat i) (0 : Int)) (3 : Int)),
                                                  SV.bool false, SV.raw (u (27 : Nat)), SV.raw (u (28 : Nat)), SV.raw (u (29 : Nat)), SV.raw (u (30 : Nat)), SV.raw (u (31 : Nat)),
                                                  SV.raw (u (32 : Nat)), SV.raw (u (33 : Nat)), SV.raw (u (34 : Nat)), SV.raw (u (35 : Nat)), SV.raw (u (36 : Nat)), SV.raw (u (37 : Nat)),
                                                  SV.raw (u (38 : Nat)), SV.raw (u (39 : Nat)), SV.raw (u (40 : Nat)), SV.raw (u (41 : Nat)), SV.raw (u (42 : Nat)), SV.raw (u (43 : Nat)),
                                                  SV.raw (u (44 : Nat)), SV.raw (u (45 : Nat)), SV.raw (u (46 : Nat)), SV.raw (u (47 : Nat)), SV.raw (u (48 : Nat)), SV.raw (u (49 : Nat)),
                                                  SV.tuple [SV.agg [SV.int IntKind.i64 (0 : Int), SV.str (ByteArray.mk #[])], SV.bool false], SV.ptr (2 : Nat) b2 (0 : Nat),
                                                  SV.tuple [SV.agg [SV.int IntKind.i64 (0 : Int), SV.str (ByteArray.mk #[])], SV.bool false],
                                                  SV.agg [SV.int IntKind.i64 (0 : Int), SV.str (ByteArray.mk #[])], SV.bool false, SV.bool false, SV.vec (3 : Nat) ao1 (List.length gs) cap1,
                                                  SV.int IntKind.i64 (↑(List.length gs) : Int), SV.bool (decide ((↑(List.length gs) : Int) > (0 : Int))),
                                                  SV.bool !false == decide ((↑(List.length gs) : Int) > (0 : Int)), SV.bool false, SV.bool false, SV.bool false, SV.raw (Value.tuple #[]),
                                                  SV.raw (Value.tuple #[]), SV.raw (Value.tuple #[]), SV.raw (Value.tuple #[]), SV.raw (Value.tuple #[]), SV.raw (Value.tuple #[]),
                                                  SV.raw (Value.tuple #[]), SV.raw (Value.tuple #[]), SV.raw (Value.tuple #[]), SV.raw (Value.tuple #[]), SV.raw (Value.tuple #[]), SV.bool false,
                                                  SV.bool false, SV.bool false, SV.raw (u (77 : Nat)), SV.raw (u (78 : Nat)), SV.raw (u (79 : Nat)), SV.raw (u (80 : Nat)), SV.raw (u (81 : Nat)),
                                                  SV.raw (u (82 : Nat)), SV.raw (u (83 : Nat))]
                                                [Ent.mk (Loc.sl ao cap) (SObj.roL c0 (1 : Nat) encByte bs (0 : Int)), Ent.mk (Loc.blk b1) (SObj.mapV (@none IntKind) []),
                                                  Ent.mk (Loc.blk b2) (SObj.cells [SV.map (1 : Nat) b1, SV.vec (4 : Nat) ao2 (List.length ds) cap2, SV.int IntKind.i64 (0 : Int)] (120 : TypeId)),
                                                  Ent.mk (Loc.sl ao1 cap1) (SObj.vecL (3 : TypeId) (1 : Nat) encInt gs (0 : Int)),
                                                  Ent.mk (Loc.sl ao2 cap2) (SObj.vecL (42 : TypeId) (2 : Nat) encDg ds ((0 : Int), ByteArray.empty)),
                                                  Ent.mk (Loc.blk b) (SObj.cells [SV.int IntKind.i64 (0 : Int), SV.str (ByteArray.mk #[])] (42 : Nat)),
                                                  Ent.mk (Loc.blk b_1) (SObj.cells [SV.int IntKind.i64 (0 : Int), SV.str (ByteArray.mk #[])] (42 : Nat)),
                                                  Ent.mk (Loc.blk b_2) (SObj.cells [SV.int IntKind.i64 (0 : Int), SV.str (ByteArray.mk #[])] (42 : Nat)),
                                                  Ent.mk (Loc.blk b_3) (SObj.cells [SV.int IntKind.i64 (0 : Int), SV.str (ByteArray.mk #[])] (42 : Nat))])
                    | false =>
                      b2 = b2 ∧
                        (ao2 = ao2 ∧ cap2 = cap2 ∧ List.length ds = List.length ds ∧ (0 : Int) ≤ (0 : Int) ∧ (0 : Int) < (↑(List.length ds) : Int)) ∧
                          (Addr.blkD ao2 = Addr.blkD ao2 ∧ Addr.offD ao2 = Addr.offD ao2 ∧ (2 : Nat) = (2 : Nat) ∧ (0 : Nat) < List.length ds ∧ (2 : Nat) = (2 : Nat)) ∧
                            (b2 = b2 ∧
                                ((0 : Int) ≤ (1 : Int) ∧ (1 : Int) ≤ (↑(List.length ds) : Int) ∧ List.length ds ≤ cap2) ∧
                                  (b_2 = b_2 ∧ true = true ∧ (2 : Nat) = (2 : Nat) ∧ (2 : Nat) ≤ (2 : Nat)) ∧
                                    (b2 = b2 ∧ true = true ∧ (1 : Nat) = (1 : Nat) ∧ (2 : Nat) ≤ (3 : Nat)) ∧
                                      (b_2 = b_2 ∧ (2 : Nat) = (2 : Nat)) ∧
                                        (b_1 = b_1 ∧ true = true ∧ (2 : Nat) = (2 : Nat) ∧ (2 : Nat) ≤ (2 : Nat)) ∧
                                          (b_1 = b_1 ∧ (2 : Nat) = (2 : Nat)) ∧
                                            (b = b ∧ true = true ∧ (2 : Nat) = (2 : Nat) ∧ (2 : Nat) ≤ (2 : Nat)) ∧
                                              (b = b ∧ (2 : Nat) = (2 : Nat)) ∧
                                                ∀ (b_3 : Nat),
                                                  (b_3 = b_3 ∧ true = true ∧ (2 : Nat) = (2 : Nat) ∧ (2 : Nat) ≤ (2 : Nat)) ∧
                                                    match !true == decide ((↑(List.length gs) : Int) > (0 : Int)) with
                                                    | true =>
                                                      true = true ∧
                                                        true = true ∧
                                                          true = true ∧
                                                            true = true ∧
                                                              true = true ∧
                                                                true = true ∧
                                                                  true = true ∧
                                                                    true = true ∧
                                                                      true = true ∧
                                                                        true = true ∧
                                                                          true = true ∧
                                                                            N
                                                                              [Ent.mk (Loc.sl ao cap) (SObj.roL c0 (1 : Nat) encByte bs (0 : Int)), Ent.mk (Loc.blk b1) (SObj.mapV (@none IntKind) []),
                                                                                Ent.mk (Loc.blk b2)
                                                                                  (SObj.cells
                                                                                    [SV.map (1 : Nat) b1, SV.sub (4 : Nat) ao2 cap2 (2 : Nat) (1 : Nat) (List.length ds), SV.int IntKind.i64 (0 : Int)]
                                                                                    (120 : TypeId)),
                                                                                Ent.mk (Loc.sl ao1 cap1) (SObj.vecL (3 : TypeId) (1 : Nat) encInt gs (0 : Int)),
                                                                                Ent.mk (Loc.sl ao2 cap2) (SObj.vecL (42 : TypeId) (2 : Nat) encDg ds ((0 : Int), ByteArray.empty)),
                                                                                Ent.mk (Loc.blk b)
                                                                                  (SObj.cells
                                                                                    [SV.int IntKind.i64 (List.getD ds (0 : Nat) ((0 : Int), ByteArray.empty)).1,
                                                                                      SV.str (List.getD ds (0 : Nat) ((0 : Int), ByteArray.empty)).snd]
                                                                                    (42 : Nat)),
                                                                                Ent.mk (Loc.blk b_1)
                                                                                  (SObj.cells
                                                                                    [SV.int IntKind.i64 (List.getD ds (0 : Nat) ((0 : Int), ByteArray.empty)).1,
                                                                                      SV.str (List.getD ds (0 : Nat) ((0 : Int), ByteArray.empty)).snd]
                                                                                    (42 : Nat)),
                                                                                Ent.mk (Loc.blk b_2)
                                                                                  (SObj.cells
                                                                                    [SV.int IntKind.i64 (List.getD ds (0 : Nat) ((0 : Int), ByteArray.empty)).1,
                                                                                      SV.str (List.getD ds (0 : Nat) ((0 : Int), ByteArray.empty)).snd]
                                                                                    (42 : Nat)),
                                                                                Ent.mk (Loc.blk b_3)
                                                                                  (SObj.cells
                                                                                    [SV.int IntKind.i64 (List.getD ds (0 : Nat) ((0 : Int), ByteArray.empty)).1,
                                                                                      SV.str (List.getD ds (0 : Nat) ((0 : Int), ByteArray.empty)).snd]
                                                                                    (42 : Nat))]
                                                                              (SV.bool false)
                                                    | false =>
                                                      b_3 = b_3 ∧
                                                        (ao1 = ao1 ∧ cap1 = cap1 ∧ List.length gs = List.length gs ∧ (0 : Int) ≤ (0 : Int) ∧ (0 : Int) < (↑(List.length gs) : Int)) ∧
                                                          (Addr.blkD ao1 = Addr.blkD ao1 ∧ Addr.offD ao1 = Addr.offD ao1 ∧ (1 : Nat) = (1 : Nat) ∧ (0 : Nat) < List.length gs) ∧
                                                            match (List.getD ds (0 : Nat) ((0 : Int), ByteArray.empty)).1 != List.getD gs (0 : Nat) (0 : Int) with
                                                            | true =>
                                                              N
                                                                [Ent.mk (Loc.sl ao cap) (SObj.roL c0 (1 : Nat) encByte bs (0 : Int)), Ent.mk (Loc.blk b1) (SObj.mapV (@none IntKind) []),
                                                                  Ent.mk (Loc.blk b2)
                                                                    (SObj.cells [SV.map (1 : Nat) b1, SV.sub (4 : Nat) ao2 cap2 (2 : Nat) (1 : Nat) (List.length ds), SV.int IntKind.i64 (0 : Int)]
                                                                      (120 : TypeId)),
                                                                  Ent.mk (Loc.sl ao1 cap1) (SObj.vecL (3 : TypeId) (1 : Nat) encInt gs (0 : Int)),
                                                                  Ent.mk (Loc.sl ao2 cap2) (SObj.vecL (42 : TypeId) (2 : Nat) encDg ds ((0 : Int), ByteArray.empty)),
                                                                  Ent.mk (Loc.blk b)
                                                                    (SObj.cells
                                                                      [SV.int IntKind.i64 (List.getD ds (0 : Nat) ((0 : Int), ByteArray.empty)).1,
                                                                        SV.str (List.getD ds (0 : Nat) ((0 : Int), ByteArray.empty)).snd]
                                                                      (42 : Nat)),
                                                                  Ent.mk (Loc.blk b_1)
                                                                    (SObj.cells
                                                                      [SV.int IntKind.i64 (List.getD ds (0 : Nat) ((0 : Int), ByteArray.empty)).1,
                                                                        SV.str (List.getD ds (0 : Nat) ((0 : Int), ByteArray.empty)).snd]
                                                                      (42 : Nat)),
                                                                  Ent.mk (Loc.blk b_2)
                                                                    (SObj.cells
                                                                      [SV.int IntKind.i64 (List.getD ds (0 : Nat) ((0 : Int), ByteArray.empty)).1,
                                                                        SV.str (List.getD ds (0 : Nat) ((0 : Int), ByteArray.empty)).snd]
                                                                      (42 : Nat)),
                                                                  Ent.mk (Loc.blk b_3)
                                                                    (SObj.cells
                                                                      [SV.int IntKind.i64 (List.getD ds (0 : Nat) ((0 : Int), ByteArray.empty)).1,
                                                                        SV.str (List.getD ds (0 : Nat) ((0 : Int), ByteArray.empty)).snd]
                                                                      (42 : Nat))]
                                                                (SV.bool false)
                                                            | false =>
                                                              b_3 = b_3 ∧
                                                                match !sEq (List.getD ds (0 : Nat) ((0 : Int), ByteArray.empty)).snd (ByteArray.mk #[(116 : UInt8)]) with
                                                                | true =>
                                                                  N
                                                                    [Ent.mk (Loc.sl ao cap) (SObj.roL c0 (1 : Nat) encByte bs (0 : Int)), Ent.mk (Loc.blk b1) (SObj.mapV (@none IntKind) []),
                                                                      Ent.mk (Loc.blk b2)
                                                                        (SObj.cells [SV.map (1 : Nat) b1, SV.sub (4 : Nat) ao2 cap2 (2 : Nat) (1 : Nat) (List.length ds), SV.int IntKind.i64 (0 : Int)]
                                                                          (120 : TypeId)),
                                                                      Ent.mk (Loc.sl ao1 cap1) (SObj.vecL (3 : TypeId) (1 : Nat) encInt gs (0 : Int)),
                                                                      Ent.mk (Loc.sl ao2 cap2) (SObj.vecL (42 : TypeId) (2 : Nat) encDg ds ((0 : Int), ByteArray.empty)),
                                                                      Ent.mk (Loc.blk b)
                                                                        (SObj.cells
                                                                          [SV.int IntKind.i64 (List.getD ds (0 : Nat) ((0 : Int), ByteArray.empty)).1,
                                                                            SV.str (List.getD ds (0 : Nat) ((0 : Int), ByteArray.empty)).snd]
                                                                          (42 : Nat)),
                                                                      Ent.mk (Loc.blk b_1)
                                                                        (SObj.cells
                                                                          [SV.int IntKind.i64 (List.getD ds (0 : Nat) ((0 : Int), ByteArray.empty)).1,
                                                                            SV.str (List.getD ds (0 : Nat) ((0 : Int), ByteArray.empty)).snd]
                                                                          (42 : Nat)),
                                                                      Ent.mk (Loc.blk b_2)
                                                                        (SObj.cells
                                                                          [SV.int IntKind.i64 (List.getD ds (0 : Nat) ((0 : Int), ByteArray.empty)).1,
                                                                            SV.str (List.getD ds (0 : Nat) ((0 : Int), ByteArray.empty)).snd]
                                                                          (42 : Nat)),
                                                                      Ent.mk (Loc.blk b_3)
                                                                        (SObj.cells
                                                                          [SV.int IntKind.i64 (List.getD ds (0 : Nat) ((0 : Int), ByteArray.empty)).1,
                                                                            SV.str (List.getD ds (0 : Nat) ((0 : Int), ByteArray.empty)).snd]
                                                                          (42 : Nat))]
                                                                    (SV.bool false)
                                                                | false =>
                                                                  ((0 : Int) ≤ (1 : Int) ∧ (1 : Int) ≤ (↑(List.length gs) : Int) ∧ List.length gs ≤ cap1) ∧
                                                                    K
                                                                      [Frm.loop J, Frm.blk (0 : Nat),
                                                                        Frm.code (codeAt (bodyOf Try.f5) [(1 : Nat), (1 : Nat), (1 : Nat), (1 : Nat), (1 : Nat), (1 : Nat)])]
                                                                      (Sy.mk
                                                                        [SV.vec (0 : Nat) ao (List.length bs) cap, SV.raw (u (1 : Nat)), SV.bool false, SV.ptr (2 : Nat) b2 (0 : Nat),
                                                                          SV.sub (3 : Nat) ao1 cap1 (1 : Nat) (1 : Nat) (List.length gs), SV.int IntKind.i64 (IntKind.wrap IntKind.i64 (i + (1 : Int))),
                                                                          SV.raw (u (6 : Nat)), SV.ptr (8 : Nat) b_3 (0 : Nat), SV.bool true, SV.raw (u (9 : Nat)), SV.raw (u (10 : Nat)),
                                                                          SV.raw (u (11 : Nat)), SV.raw (u (12 : Nat)), SV.raw (u (13 : Nat)), SV.raw (u (14 : Nat)), SV.int IntKind.i64 i,
                                                                          SV.vec (0 : Nat) ao (List.length bs) cap, SV.int IntKind.i64 (↑(List.length bs) : Int), SV.bool true, SV.int IntKind.i64 i,
                                                                          SV.int IntKind.i64 (IntKind.wrap IntKind.i64 (i + (1 : Int))), SV.vec (0 : Nat) ao (List.length bs) cap, SV.int IntKind.i64 i,
                                                                          SV.eptr (0 : Nat) (Addr.blkD ao) (Addr.offD ao) (1 : Nat) (Int.toNat i) (0 : Nat),
                                                                          SV.int IntKind.u8 (List.getD bs (Int.toNat i) (0 : Int)),
                                                                          SV.int IntKind.u8 (Int.tmod (List.getD bs (Int.toNat i) (0 : Int)) (3 : Int)), SV.bool false, SV.raw (u (27 : Nat)),
                                                                          SV.raw (u (28 : Nat)), SV.raw (u (29 : Nat)), SV.raw (u (30 : Nat)), SV.raw (u (31 : Nat)), SV.raw (u (32 : Nat)),
                                                                          SV.raw (u (33 : Nat)), SV.raw (u (34 : Nat)), SV.raw (u (35 : Nat)), SV.raw (u (36 : Nat)), SV.raw (u (37 : Nat)),
                                                                          SV.raw (u (38 : Nat)), SV.raw (u (39 : Nat)), SV.raw (u (40 : Nat)), SV.raw (u (41 : Nat)), SV.raw (u (42 : Nat)),
                                                                          SV.raw (u (43 : Nat)), SV.raw (u (44 : Nat)), SV.raw (u (45 : Nat)), SV.raw (u (46 : Nat)), SV.raw (u (47 : Nat)),
                                                                          SV.raw (u (48 : Nat)), SV.raw (u (49 : Nat)),
                                                                          SV.tuple
                                                                            [SV.agg
                                                                                [SV.int IntKind.i64 (List.getD ds (0 : Nat) ((0 : Int), ByteArray.empty)).1,
                                                                                  SV.str (List.getD ds (0 : Nat) ((0 : Int), ByteArray.empty)).snd],
                                                                              SV.bool true],
                                                                          SV.ptr (2 : Nat) b2 (0 : Nat),
                                                                          SV.tuple
                                                                            [SV.agg
                                                                                [SV.int IntKind.i64 (List.getD ds (0 : Nat) ((0 : Int), ByteArray.empty)).1,
                                                                                  SV.str (List.getD ds (0 : Nat) ((0 : Int), ByteArray.empty)).snd],
                                                                              SV.bool true],
                                                                          SV.agg
                                                                            [SV.int IntKind.i64 (List.getD ds (0 : Nat) ((0 : Int), ByteArray.empty)).1,
                                                                              SV.str (List.getD ds (0 : Nat) ((0 : Int), ByteArray.empty)).snd],
                                                                          SV.bool true, SV.bool true, SV.vec (3 : Nat) ao1 (List.length gs) cap1, SV.int IntKind.i64 (↑(List.length gs) : Int),
                                                                          SV.bool (decide ((↑(List.length gs) : Int) > (0 : Int))), SV.bool !true == decide ((↑(List.length gs) : Int) > (0 : Int)),
                                                                          SV.bool false, SV.bool true, SV.bool true, SV.ptr (8 : Nat) b_3 (0 : Nat),
                                                                          SV.int IntKind.i64 (List.getD ds (0 : Nat) ((0 : Int), ByteArray.empty)).1, SV.vec (3 : Nat) ao1 (List.length gs) cap1,
                                                                          SV.eptr (3 : Nat) (Addr.blkD ao1) (Addr.offD ao1) (1 : Nat) (0 : Nat) (0 : Nat),
                                                                          SV.int IntKind.i64 (List.getD gs (0 : Nat) (0 : Int)),
                                                                          SV.bool ((List.getD ds (0 : Nat) ((0 : Int), ByteArray.empty)).1 != List.getD gs (0 : Nat) (0 : Int)), SV.bool false,
                                                                          SV.ptr (8 : Nat) b_3 (1 : Nat), SV.str (List.getD ds (0 : Nat) ((0 : Int), ByteArray.empty)).snd,
                                                                          SV.bool !sEq (List.getD ds (0 : Nat) ((0 : Int), ByteArray.empty)).snd (ByteArray.mk #[(116 : UInt8)]),
                                                                          SV.bool !sEq (List.getD ds (0 : Nat) ((0 : Int), ByteArray.empty)).snd (ByteArray.mk #[(116 : UInt8)]),
                                                                          SV.bool !sEq (List.getD ds (0 : Nat) ((0 : Int), ByteArray.empty)).snd (ByteArray.mk #[(116 : UInt8)]), SV.bool false,
                                                                          SV.bool true, SV.vec (3 : Nat) ao1 (List.length gs) cap1, SV.sub (3 : Nat) ao1 cap1 (1 : Nat) (1 : Nat) (List.length gs),
                                                                          SV.raw (u (79 : Nat)), SV.raw (u (80 : Nat)), SV.raw (u (81 : Nat)), SV.raw (u (82 : Nat)), SV.raw (u (83 : Nat))]
                                                                        [Ent.mk (Loc.sl ao cap) (SObj.roL c0 (1 : Nat) encByte bs (0 : Int)), Ent.mk (Loc.blk b1) (SObj.mapV (@none IntKind) []),
                                                                          Ent.mk (Loc.blk b2)
                                                                            (SObj.cells
                                                                              [SV.map (1 : Nat) b1, SV.sub (4 : Nat) ao2 cap2 (2 : Nat) (1 : Nat) (List.length ds), SV.int IntKind.i64 (0 : Int)]
                                                                              (120 : TypeId)),
                                                                          Ent.mk (Loc.sl ao1 cap1) (SObj.vecL (3 : TypeId) (1 : Nat) encInt gs (0 : Int)),
                                                                          Ent.mk (Loc.sl ao2 cap2) (SObj.vecL (42 : TypeId) (2 : Nat) encDg ds ((0 : Int), ByteArray.empty)),
                                                                          Ent.mk (Loc.blk b)
                                                                            (SObj.cells
                                                                              [SV.int IntKind.i64 (List.getD ds (0 : Nat) ((0 : Int), ByteArray.empty)).1,
                                                                                SV.str (List.getD ds (0 : Nat) ((0 : Int), ByteArray.empty)).snd]
                                                                              (42 : Nat)),
                                                                          Ent.mk (Loc.blk b_1)
                                                                            (SObj.cells
                                                                              [SV.int IntKind.i64 (List.getD ds (0 : Nat) ((0 : Int), ByteArray.empty)).1,
                                                                                SV.str (List.getD ds (0 : Nat) ((0 : Int), ByteArray.empty)).snd]
                                                                              (42 : Nat)),
                                                                          Ent.mk (Loc.blk b_2)
                                                                            (SObj.cells
                                                                              [SV.int IntKind.i64 (List.getD ds (0 : Nat) ((0 : Int), ByteArray.empty)).1,
                                                                                SV.str (List.getD ds (0 : Nat) ((0 : Int), ByteArray.empty)).snd]
                                                                              (42 : Nat)),
                                                                          Ent.mk (Loc.blk b_3)
                                                                            (SObj.cells
                                                                              [SV.int IntKind.i64 (List.getD ds (0 : Nat) ((0 : Int), ByteArray.empty)).1,
                                                                                SV.str (List.getD ds (0 : Nat) ((0 : Int), ByteArray.empty)).snd]
                                                                              (42 : Nat))])) ∧
                              (b_2 = b_2 ∧ true = true ∧ (2 : Nat) = (2 : Nat) ∧ (2 : Nat) ≤ (2 : Nat)) ∧
                                b2 = b2 ∧
                                  ((0 : Int) ≤ (1 : Int) ∧ (1 : Int) ≤ (↑(List.length ds) : Int) ∧ List.length ds ≤ cap2) ∧
                                    (b2 = b2 ∧ true = true ∧ (1 : Nat) = (1 : Nat) ∧ (2 : Nat) ≤ (3 : Nat)) ∧
                                      (b_2 = b_2 ∧ (2 : Nat) = (2 : Nat)) ∧
                                        (b_1 = b_1 ∧ true = true ∧ (2 : Nat) = (2 : Nat) ∧ (2 : Nat) ≤ (2 : Nat)) ∧
                                          (b_1 = b_1 ∧ (2 : Nat) = (2 : Nat)) ∧
                                            (b = b ∧ true = true ∧ (2 : Nat) = (2 : Nat) ∧ (2 : Nat) ≤ (2 : Nat)) ∧
                                              (b = b ∧ (2 : Nat) = (2 : Nat)) ∧
                                                ∀ (b_3 : Nat),
                                                  (b_3 = b_3 ∧ true = true ∧ (2 : Nat) = (2 : Nat) ∧ (2 : Nat) ≤ (2 : Nat)) ∧
                                                    match !true == decide ((↑(List.length gs) : Int) > (0 : Int)) with
                                                    | true =>
                                                      true = true ∧
                                                        true = true ∧
                                                          true = true ∧
                                                            true = true ∧
                                                              true = true ∧
                                                                true = true ∧
                                                                  true = true ∧
                                                                    true = true ∧
                                                                      true = true ∧
                                                                        true = true ∧
                                                                          true = true ∧
                                                                            N
                                                                              [Ent.mk (Loc.sl ao cap) (SObj.roL c0 (1 : Nat) encByte bs (0 : Int)), Ent.mk (Loc.blk b1) (SObj.mapV (@none IntKind) []),
                                                                                Ent.mk (Loc.blk b2)
                                                                                  (SObj.cells
                                                                                    [SV.map (1 : Nat) b1, SV.sub (4 : Nat) ao2 cap2 (2 : Nat) (1 : Nat) (List.length ds), SV.int IntKind.i64 (0 : Int)]
                                                                                    (120 : TypeId)),
                                                                                Ent.mk (Loc.sl ao1 cap1) (SObj.vecL (3 : TypeId) (1 : Nat) encInt gs (0 : Int)),
                                                                                Ent.mk (Loc.sl ao2 cap2) (SObj.vecL (42 : TypeId) (2 : Nat) encDg ds ((0 : Int), ByteArray.empty)),
                                                                                Ent.mk (Loc.blk b)
                                                                                  (SObj.cells
                                                                                    [SV.int IntKind.i64 (List.getD ds (0 : Nat) ((0 : Int), ByteArray.empty)).1,
                                                                                      SV.str (List.getD ds (0 : Nat) ((0 : Int), ByteArray.empty)).snd]
                                                                                    (42 : Nat)),
                                                                                Ent.mk (Loc.blk b_1)
                                                                                  (SObj.cells
                                                                                    [SV.int IntKind.i64 (List.getD ds (0 : Nat) ((0 : Int), ByteArray.empty)).1,
                                                                                      SV.str (List.getD ds (0 : Nat) ((0 : Int), ByteArray.empty)).snd]
                                                                                    (42 : Nat)),
                                                                                Ent.mk (Loc.blk b_2)
                                                                                  (SObj.cells
                                                                                    [SV.int IntKind.i64 (List.getD ds (0 : Nat) ((0 : Int), ByteArray.empty)).1,
                                                                                      SV.str (List.getD ds (0 : Nat) ((0 : Int), ByteArray.empty)).snd]
                                                                                    (42 : Nat)),
                                                                                Ent.mk (Loc.blk b_3)
                                                                                  (SObj.cells
                                                                                    [SV.int IntKind.i64 (List.getD ds (0 : Nat) ((0 : Int), ByteArray.empty)).1,
                                                                                      SV.str (List.getD ds (0 : Nat) ((0 : Int), ByteArray.empty)).snd]
                                                                                    (42 : Nat))]
                                                                              (SV.bool false)
                                                    | false =>
                                                      b_3 = b_3 ∧
                                                        (ao1 = ao1 ∧ cap1 = cap1 ∧ List.length gs = List.length gs ∧ (0 : Int) ≤ (0 : Int) ∧ (0 : Int) < (↑(List.length gs) : Int)) ∧
                                                          (Addr.blkD ao1 = Addr.blkD ao1 ∧ Addr.offD ao1 = Addr.offD ao1 ∧ (1 : Nat) = (1 : Nat) ∧ (0 : Nat) < List.length gs) ∧
                                                            match (List.getD ds (0 : Nat) ((0 : Int), ByteArray.empty)).1 != List.getD gs (0 : Nat) (0 : Int) with
                                                            | true =>
                                                              N
                                                                [Ent.mk (Loc.sl ao cap) (SObj.roL c0 (1 : Nat) encByte bs (0 : Int)), Ent.mk (Loc.blk b1) (SObj.mapV (@none IntKind) []),
                                                                  Ent.mk (Loc.blk b2)
                                                                    (SObj.cells [SV.map (1 : Nat) b1, SV.sub (4 : Nat) ao2 cap2 (2 : Nat) (1 : Nat) (List.length ds), SV.int IntKind.i64 (0 : Int)]
                                                                      (120 : TypeId)),
                                                                  Ent.mk (Loc.sl ao1 cap1) (SObj.vecL (3 : TypeId) (1 : Nat) encInt gs (0 : Int)),
                                                                  Ent.mk (Loc.sl ao2 cap2) (SObj.vecL (42 : TypeId) (2 : Nat) encDg ds ((0 : Int), ByteArray.empty)),
                                                                  Ent.mk (Loc.blk b)
                                                                    (SObj.cells
                                                                      [SV.int IntKind.i64 (List.getD ds (0 : Nat) ((0 : Int), ByteArray.empty)).1,
                                                                        SV.str (List.getD ds (0 : Nat) ((0 : Int), ByteArray.empty)).snd]
                                                                      (42 : Nat)),
                                                                  Ent.mk (Loc.blk b_1)
                                                                    (SObj.cells
                                                                      [SV.int IntKind.i64 (List.getD ds (0 : Nat) ((0 : Int), ByteArray.empty)).1,
                                                                        SV.str (List.getD ds (0 : Nat) ((0 : Int), ByteArray.empty)).snd]
                                                                      (42 : Nat)),
                                                                  Ent.mk (Loc.blk b_2)
                                                                    (SObj.cells
                                                                      [SV.int IntKind.i64 (List.getD ds (0 : Nat) ((0 : Int), ByteArray.empty)).1,
                                                                        SV.str (List.getD ds (0 : Nat) ((0 : Int), ByteArray.empty)).snd]
                                                                      (42 : Nat)),
                                                                  Ent.mk (Loc.blk b_3)
                                                                    (SObj.cells
                                                                      [SV.int IntKind.i64 (List.getD ds (0 : Nat) ((0 : Int), ByteArray.empty)).1,
                                                                        SV.str (List.getD ds (0 : Nat) ((0 : Int), ByteArray.empty)).snd]
                                                                      (42 : Nat))]
                                                                (SV.bool false)
                                                            | false =>
                                                              b_3 = b_3 ∧
                                                                match !sEq (List.getD ds (0 : Nat) ((0 : Int), ByteArray.empty)).snd (ByteArray.mk #[(116 : UInt8)]) with
                                                                | true =>
                                                                  N
                                                                    [Ent.mk (Loc.sl ao cap) (SObj.roL c0 (1 : Nat) encByte bs (0 : Int)), Ent.mk (Loc.blk b1) (SObj.mapV (@none IntKind) []),
                                                                      Ent.mk (Loc.blk b2)
                                                                        (SObj.cells [SV.map (1 : Nat) b1, SV.sub (4 : Nat) ao2 cap2 (2 : Nat) (1 : Nat) (List.length ds), SV.int IntKind.i64 (0 : Int)]
                                                                          (120 : TypeId)),
                                                                      Ent.mk (Loc.sl ao1 cap1) (SObj.vecL (3 : TypeId) (1 : Nat) encInt gs (0 : Int)),
                                                                      Ent.mk (Loc.sl ao2 cap2) (SObj.vecL (42 : TypeId) (2 : Nat) encDg ds ((0 : Int), ByteArray.empty)),
                                                                      Ent.mk (Loc.blk b)
                                                                        (SObj.cells
                                                                          [SV.int IntKind.i64 (List.getD ds (0 : Nat) ((0 : Int), ByteArray.empty)).1,
                                                                            SV.str (List.getD ds (0 : Nat) ((0 : Int), ByteArray.empty)).snd]
                                                                          (42 : Nat)),
                                                                      Ent.mk (Loc.blk b_1)
                                                                        (SObj.cells
                                                                          [SV.int IntKind.i64 (List.getD ds (0 : Nat) ((0 : Int), ByteArray.empty)).1,
                                                                            SV.str (List.getD ds (0 : Nat) ((0 : Int), ByteArray.empty)).snd]
                                                                          (42 : Nat)),
                                                                      Ent.mk (Loc.blk b_2)
                                                                        (SObj.cells
                                                                          [SV.int IntKind.i64 (List.getD ds (0 : Nat) ((0 : Int), ByteArray.empty)).1,
                                                                            SV.str (List.getD ds (0 : Nat) ((0 : Int), ByteArray.empty)).snd]
                                                                          (42 : Nat)),
                                                                      Ent.mk (Loc.blk b_3)
                                                                        (SObj.cells
                                                                          [SV.int IntKind.i64 (List.getD ds (0 : Nat) ((0 : Int), ByteArray.empty)).1,
                                                                            SV.str (List.getD ds (0 : Nat) ((0 : Int), ByteArray.empty)).snd]
                                                                          (42 : Nat))]
                                                                    (SV.bool false)
                                                                | false =>
                                                                  ((0 : Int) ≤ (1 : Int) ∧ (1 : Int) ≤ (↑(List.length gs) : Int) ∧ List.length gs ≤ cap1) ∧
                                                                    K
                                                                      [Frm.loop J, Frm.blk (0 : Nat),
                                                                        Frm.code (codeAt (bodyOf Try.f5) [(1 : Nat), (1 : Nat), (1 : Nat), (1 : Nat), (1 : Nat), (1 : Nat)])]
                                                                      (Sy.mk
                                                                        [SV.vec (0 : Nat) ao (List.length bs) cap, SV.raw (u (1 : Nat)), SV.bool false, SV.ptr (2 : Nat) b2 (0 : Nat),
                                                                          SV.sub (3 : Nat) ao1 cap1 (1 : Nat) (1 : Nat) (List.length gs), SV.int IntKind.i64 (IntKind.wrap IntKind.i64 (i + (1 : Int))),
                                                                          SV.raw (u (6 : Nat)), SV.ptr (8 : Nat) b_3 (0 : Nat), SV.bool true, SV.raw (u (9 : Nat)), SV.raw (u (10 : Nat)),
                                                                          SV.raw (u (11 : Nat)), SV.raw (u (12 : Nat)), SV.raw (u (13 : Nat)), SV.raw (u (14 : Nat)), SV.int IntKind.i64 i,
                                                                          SV.vec (0 : Nat) ao (List.length bs) cap, SV.int IntKind.i64 (↑(List.length bs) : Int), SV.bool true, SV.int IntKind.i64 i,
                                                                          SV.int IntKind.i64 (IntKind.wrap IntKind.i64 (i + (1 : Int))), SV.vec (0 : Nat) ao (List.length bs) cap, SV.int IntKind.i64 i,
                                                                          SV.eptr (0 : Nat) (Addr.blkD ao) (Addr.offD ao) (1 : Nat) (Int.toNat i) (0 : Nat),
                                                                          SV.int IntKind.u8 (List.getD bs (Int.toNat i) (0 : Int)),
                                                                          SV.int IntKind.u8 (Int.tmod (List.getD bs (Int.toNat i) (0 : Int)) (3 : Int)), SV.bool false, SV.raw (u (27 : Nat)),
                                                                          SV.raw (u (28 : Nat)), SV.raw (u (29 : Nat)), SV.raw (u (30 : Nat)), SV.raw (u (31 : Nat)), SV.raw (u (32 : Nat)),
                                                                          SV.raw (u (33 : Nat)), SV.raw (u (34 : Nat)), SV.raw (u (35 : Nat)), SV.raw (u (36 : Nat)), SV.raw (u (37 : Nat)),
                                                                          SV.raw (u (38 : Nat)), SV.raw (u (39 : Nat)), SV.raw (u (40 : Nat)), SV.raw (u (41 : Nat)), SV.raw (u (42 : Nat)),
                                                                          SV.raw (u (43 : Nat)), SV.raw (u (44 : Nat)), SV.raw (u (45 : Nat)), SV.raw (u (46 : Nat)), SV.raw (u (47 : Nat)),
                                                                          SV.raw (u (48 : Nat)), SV.raw (u (49 : Nat)),
                                                                          SV.tuple
                                                                            [SV.agg
                                                                                [SV.int IntKind.i64 (List.getD ds (0 : Nat) ((0 : Int), ByteArray.empty)).1,
                                                                                  SV.str (List.getD ds (0 : Nat) ((0 : Int), ByteArray.empty)).snd],
                                                                              SV.bool true],
                                                                          SV.ptr (2 : Nat) b2 (0 : Nat),
                                                                          SV.tuple
                                                                            [SV.agg
                                                                                [SV.int IntKind.i64 (List.getD ds (0 : Nat) ((0 : Int), ByteArray.empty)).1,
                                                                                  SV.str (List.getD ds (0 : Nat) ((0 : Int), ByteArray.empty)).snd],
                                                                              SV.bool true],
                                                                          SV.agg
                                                                            [SV.int IntKind.i64 (List.getD ds (0 : Nat) ((0 : Int), ByteArray.empty)).1,
                                                                              SV.str (List.getD ds (0 : Nat) ((0 : Int), ByteArray.empty)).snd],
                                                                          SV.bool true, SV.bool true, SV.vec (3 : Nat) ao1 (List.length gs) cap1, SV.int IntKind.i64 (↑(List.length gs) : Int),
                                                                          SV.bool (decide ((↑(List.length gs) : Int) > (0 : Int))), SV.bool !true == decide ((↑(List.length gs) : Int) > (0 : Int)),
                                                                          SV.bool false, SV.bool true, SV.bool true, SV.ptr (8 : Nat) b_3 (0 : Nat),
                                                                          SV.int IntKind.i64 (List.getD ds (0 : Nat) ((0 : Int), ByteArray.empty)).1, SV.vec (3 : Nat) ao1 (List.length gs) cap1,
                                                                          SV.eptr (3 : Nat) (Addr.blkD ao1) (Addr.offD ao1) (1 : Nat) (0 : Nat) (0 : Nat),
                                                                          SV.int IntKind.i64 (List.getD gs (0 : Nat) (0 : Int)),
                                                                          SV.bool ((List.getD ds (0 : Nat) ((0 : Int), ByteArray.empty)).1 != List.getD gs (0 : Nat) (0 : Int)), SV.bool false,
                                                                          SV.ptr (8 : Nat) b_3 (1 : Nat), SV.str (List.getD ds (0 : Nat) ((0 : Int), ByteArray.empty)).snd,
                                                                          SV.bool !sEq (List.getD ds (0 : Nat) ((0 : Int), ByteArray.empty)).snd (ByteArray.mk #[(116 : UInt8)]),
                                                                          SV.bool !sEq (List.getD ds (0 : Nat) ((0 : Int), ByteArray.empty)).snd (ByteArray.mk #[(116 : UInt8)]),
                                                                          SV.bool !sEq (List.getD ds (0 : Nat) ((0 : Int), ByteArray.empty)).snd (ByteArray.mk #[(116 : UInt8)]), SV.bool false,
                                                                          SV.bool true, SV.vec (3 : Nat) ao1 (List.length gs) cap1, SV.sub (3 : Nat) ao1 cap1 (1 : Nat) (1 : Nat) (List.length gs),
                                                                          SV.raw (u (79 : Nat)), SV.raw (u (80 : Nat)), SV.raw (u (81 : Nat)), SV.raw (u (82 : Nat)), SV.raw (u (83 : Nat))]
                                                                        [Ent.mk (Loc.sl ao cap) (SObj.roL c0 (1 : Nat) encByte bs (0 : Int)), Ent.mk (Loc.blk b1) (SObj.mapV (@none IntKind) []),
                                                                          Ent.mk (Loc.blk b2)
                                                                            (SObj.cells
                                                                              [SV.map (1 : Nat) b1, SV.sub (4 : Nat) ao2 cap2 (2 : Nat) (1 : Nat) (List.length ds), SV.int IntKind.i64 (0 : Int)]
                                                                              (120 : TypeId)),
                                                                          Ent.mk (Loc.sl ao1 cap1) (SObj.vecL (3 : TypeId) (1 : Nat) encInt gs (0 : Int)),
                                                                          Ent.mk (Loc.sl ao2 cap2) (SObj.vecL (42 : TypeId) (2 : Nat) encDg ds ((0 : Int), ByteArray.empty)),
                                                                          Ent.mk (Loc.blk b)
                                                                            (SObj.cells
                                                                              [SV.int IntKind.i64 (List.getD ds (0 : Nat) ((0 : Int), ByteArray.empty)).1,
                                                                                SV.str (List.getD ds (0 : Nat) ((0 : Int), ByteArray.empty)).snd]
                                                                              (42 : Nat)),
                                                                          Ent.mk (Loc.blk b_1)
                                                                            (SObj.cells
                                                                              [SV.int IntKind.i64 (List.getD ds (0 : Nat) ((0 : Int), ByteArray.empty)).1,
                                                                                SV.str (List.getD ds (0 : Nat) ((0 : Int), ByteArray.empty)).snd]
                                                                              (42 : Nat)),
                                                                          Ent.mk (Loc.blk b_2)
                                                                            (SObj.cells
                                                                              [SV.int IntKind.i64 (List.getD ds (0 : Nat) ((0 : Int), ByteArray.empty)).1,
                                                                                SV.str (List.getD ds (0 : Nat) ((0 : Int), ByteArray.empty)).snd]
                                                                              (42 : Nat)),
                                                                          Ent.mk (Loc.blk b_3)
                                                                            (SObj.cells
                                                                              [SV.int IntKind.i64 (List.getD ds (0 : Nat) ((0 : Int), ByteArray.empty)).1,
                                                                                SV.str (List.getD ds (0 : Nat) ((0 : Int), ByteArray.empty)).snd]
                                                                              (42 : Nat))])
| false =>
  true = true ∧
    b2 = b2 ∧
      N
        [Ent.mk (Loc.sl ao cap) (SObj.roL c0 (1 : Nat) encByte bs (0 : Int)), Ent.mk (Loc.blk b1) (SObj.mapV (@none IntKind) []),
          Ent.mk (Loc.blk b2) (SObj.cells [SV.map (1 : Nat) b1, SV.vec (4 : Nat) ao2 (List.length ds) cap2, SV.int IntKind.i64 (0 : Int)] (120 : TypeId)),
          Ent.mk (Loc.sl ao1 cap1) (SObj.vecL (3 : TypeId) (1 : Nat) encInt gs (0 : Int)), Ent.mk (Loc.sl ao2 cap2) (SObj.vecL (42 : TypeId) (2 : Nat) encDg ds ((0 : Int), ByteArray.empty))]
        (SV.bool ((↑(List.length ds) : Int) == (↑(List.length gs) : Int)))) := by kernel_rfl


end Go.Proofs.Ytjnkfgigpapeaaa
