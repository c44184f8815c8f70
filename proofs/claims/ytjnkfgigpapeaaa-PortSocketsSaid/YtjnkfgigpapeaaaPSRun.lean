import Derived.Test.YtjnkfgigpapeaaaPSC
import Derived.Test.YtjnkfgigpapeaaaTab
namespace Go.Proofs.Ytjnkfgigpapeaaa
set_option linter.unusedVariables false
open Go Go.RowKit
set_option maxHeartbeats 0
set_option maxRecDepth 100000
set_option maxRecDepth 100000

theorem ps_start (K : List Frm → Sy → Prop) (N : List Ent → SV → Prop) (c0 : Ch) (cap : Nat) (ao : Option Addr) (bs : List Int) : (run Try.prog port5 false [100008] K (retP Try.prog Try.f6.results.toList N) 2000 [.code (bodyOf Try.f6)] ⟨padTo 144 [.vec 0 ao bs.length cap], [⟨.sl ao cap, .roL c0 1 encByte bs 0⟩]⟩) = (
true = true ∧
  match decide ((↑(List.length bs) : Int) > (45 : Int)) with
  | true => N [Ent.mk (Loc.sl ao cap) (SObj.roL c0 (1 : Nat) encByte bs (0 : Int))] (SV.bool true)
  | false =>
    (true = true ∧ true = true) ∧
      ∀ (b : Nat),
        (b = b ∧ true = true ∧ (3 : Nat) = (3 : Nat) ∧ (3 : Nat) ≤ (3 : Nat)) ∧
          true = true ∧
            ∀ (b_1 : Nat),
              (true = true ∧ true = true) ∧
                true = true ∧
                  ∀ (b_2 : Nat),
                    ((0 : Int) ≤ (0 : Int) ∧ (0 : Int) < (↑(3 : Nat) : Int)) ∧
                      b = b ∧
                        true = true ∧
                          b_2 = b_2 ∧
                            (b_1 = b_1 ∧ @none IntKind = @none IntKind ∧ @none IntKind = @none IntKind) ∧
                              b_2 = b_2 ∧
                                (true = true ∧ true = true) ∧
                                  true = true ∧
                                    ∀ (b_3 : Nat),
                                      (b_1 = b_1 ∧ @none IntKind = @none IntKind ∧ @none IntKind = @none IntKind) ∧
                                        ((0 : Int) ≤ (1 : Int) ∧ (1 : Int) < (↑(3 : Nat) : Int)) ∧
                                          b = b ∧
                                            true = true ∧
                                              b_2 = b_2 ∧
                                                (b_1 = b_1 ∧ @none IntKind = @none IntKind ∧ @none IntKind = @none IntKind) ∧
                                                  b_2 = b_2 ∧
                                                    (true = true ∧ true = true) ∧
                                                      true = true ∧
                                                        ∀ (b_4 : Nat),
                                                          (b_1 = b_1 ∧ @none IntKind = @none IntKind ∧ @none IntKind = @none IntKind) ∧
                                                            ((0 : Int) ≤ (2 : Int) ∧ (2 : Int) < (↑(3 : Nat) : Int)) ∧
                                                              b = b ∧
                                                                true = true ∧
                                                                  b_2 = b_2 ∧
                                                                    (b_1 = b_1 ∧ @none IntKind = @none IntKind ∧ @none IntKind = @none IntKind) ∧
                                                                      b_2 = b_2 ∧
                                                                        (true = true ∧ true = true) ∧
                                                                          true = true ∧
                                                                            ∀ (b_5 : Nat),
                                                                              (b_1 = b_1 ∧ @none IntKind = @none IntKind ∧ @none IntKind = @none IntKind) ∧
                                                                                ∀ (b_6 : Nat),
                                                                                  K
                                                                                    (frm [] (bodyOf Try.f6)
                                                                                      [(1 : Nat), (1 : Nat), (1 : Nat), (1 : Nat), (1 : Nat), (1 : Nat), (1 : Nat), (1 : Nat), (0 : Nat), (1 : Nat),
                                                                                        (0 : Nat)]
                                                                                      [])
                                                                                    (Sy.mk
                                                                                      [SV.vec (0 : Nat) ao (List.length bs) cap, SV.raw (Value.tuple #[]), SV.bool false, SV.ptr (1 : Nat) b (0 : Nat),
                                                                                        SV.ptr (3 : Nat) b_2 (0 : Nat), SV.int IntKind.i64 (3 : Int), SV.ptr (7 : Nat) b_6 (0 : Nat),
                                                                                        SV.int IntKind.i64 (1 : Int), SV.int IntKind.i64 (0 : Int), SV.raw (Value.tuple #[]), SV.raw (Value.tuple #[]),
                                                                                        SV.raw (Value.tuple #[]), SV.raw (Value.tuple #[]), SV.raw (Value.tuple #[]), SV.raw (Value.tuple #[]),
                                                                                        SV.bool true, SV.bool false, SV.vec (0 : Nat) ao (List.length bs) cap,
                                                                                        SV.int IntKind.i64 (↑(List.length bs) : Int), SV.bool false,
                                                                                        SV.agg
                                                                                          [SV.str (ByteArray.mk #[(97 : UInt8)]), SV.str (ByteArray.mk #[(98 : UInt8)]),
                                                                                            SV.str (ByteArray.mk #[(99 : UInt8)])],
                                                                                        SV.ptr (3 : Nat) b_2 (0 : Nat), SV.int IntKind.i64 (3 : Int), SV.bool false, SV.int IntKind.i64 (2 : Int),
                                                                                        SV.int IntKind.i64 (3 : Int), SV.ptr (3 : Nat) b_2 (0 : Nat), SV.int IntKind.i64 (2 : Int),
                                                                                        SV.ptr (1 : Nat) b (2 : Nat), SV.str (ByteArray.mk #[(99 : UInt8)]), SV.int IntKind.i64 (0 : Int),
                                                                                        SV.bool false, SV.raw (Value.tuple #[]), SV.raw (Value.tuple #[]), SV.raw (Value.tuple #[]),
                                                                                        SV.raw (Value.tuple #[]), SV.raw (Value.tuple #[]), SV.raw (Value.tuple #[]), SV.raw (Value.tuple #[]),
                                                                                        SV.raw (Value.tuple #[]), SV.raw (Value.tuple #[]), SV.raw (Value.tuple #[]), SV.raw (Value.tuple #[]),
                                                                                        SV.raw (Value.tuple #[]), SV.raw (Value.tuple #[]), SV.raw (Value.tuple #[]), SV.raw (Value.tuple #[]),
                                                                                        SV.raw (Value.tuple #[]), SV.raw (Value.tuple #[]), SV.raw (Value.tuple #[]), SV.raw (Value.tuple #[]),
                                                                                        SV.raw (Value.tuple #[]), SV.raw (Value.tuple #[]), SV.raw (Value.tuple #[]), SV.raw (Value.tuple #[]),
                                                                                        SV.raw (Value.tuple #[]), SV.raw (Value.tuple #[]), SV.raw (Value.tuple #[]), SV.raw (Value.tuple #[]),
                                                                                        SV.raw (Value.tuple #[]), SV.raw (Value.tuple #[]), SV.raw (Value.tuple #[]), SV.raw (Value.tuple #[]),
                                                                                        SV.raw (Value.tuple #[]), SV.raw (Value.tuple #[]), SV.raw (Value.tuple #[]), SV.raw (Value.tuple #[]),
                                                                                        SV.raw (Value.tuple #[]), SV.raw (Value.tuple #[]), SV.raw (Value.tuple #[]), SV.raw (Value.tuple #[]),
                                                                                        SV.raw (Value.tuple #[]), SV.raw (Value.tuple #[]), SV.raw (Value.tuple #[]), SV.raw (Value.tuple #[]),
                                                                                        SV.raw (Value.tuple #[]), SV.raw (Value.tuple #[]), SV.raw (Value.tuple #[]), SV.raw (Value.tuple #[]),
                                                                                        SV.raw (Value.tuple #[]), SV.raw (Value.tuple #[]), SV.raw (Value.tuple #[]), SV.raw (Value.tuple #[]),
                                                                                        SV.raw (Value.tuple #[]), SV.raw (Value.tuple #[]), SV.raw (Value.tuple #[]), SV.raw (Value.tuple #[]),
                                                                                        SV.raw (Value.tuple #[]), SV.raw (Value.tuple #[]), SV.raw (Value.tuple #[]), SV.raw (Value.tuple #[]),
                                                                                        SV.raw (Value.tuple #[]), SV.raw (Value.tuple #[]), SV.raw (Value.tuple #[]), SV.raw (Value.tuple #[]),
                                                                                        SV.raw (Value.tuple #[]), SV.raw (Value.tuple #[]), SV.raw (Value.tuple #[]), SV.raw (Value.tuple #[]),
                                                                                        SV.raw (Value.tuple #[]), SV.raw (Value.tuple #[]), SV.raw (Value.tuple #[]), SV.raw (Value.tuple #[]),
                                                                                        SV.raw (Value.tuple #[]), SV.raw (Value.tuple #[]), SV.raw (Value.tuple #[]), SV.raw (Value.tuple #[]),
                                                                                        SV.raw (Value.tuple #[]), SV.raw (Value.tuple #[]), SV.raw (Value.tuple #[]), SV.raw (Value.tuple #[]),
                                                                                        SV.raw (Value.tuple #[]), SV.raw (Value.tuple #[]), SV.raw (Value.tuple #[]), SV.raw (Value.tuple #[]),
                                                                                        SV.raw (Value.tuple #[]), SV.raw (Value.tuple #[]), SV.raw (Value.tuple #[]), SV.raw (Value.tuple #[]),
                                                                                        SV.raw (Value.tuple #[]), SV.raw (Value.tuple #[]), SV.raw (Value.tuple #[]), SV.raw (Value.tuple #[]),
                                                                                        SV.raw (Value.tuple #[]), SV.raw (Value.tuple #[]), SV.raw (Value.tuple #[]), SV.raw (Value.tuple #[]),
                                                                                        SV.raw (Value.tuple #[]), SV.raw (Value.tuple #[]), SV.raw (Value.tuple #[]), SV.raw (Value.tuple #[]),
                                                                                        SV.raw (Value.tuple #[]), SV.raw (Value.tuple #[]), SV.raw (Value.tuple #[]), SV.raw (Value.tuple #[]),
                                                                                        SV.raw (Value.tuple #[]), SV.raw (Value.tuple #[]), SV.raw (Value.tuple #[]), SV.raw (Value.tuple #[]),
                                                                                        SV.raw (Value.tuple #[]), SV.raw (Value.tuple #[]), SV.raw (Value.tuple #[]), SV.raw (Value.tuple #[]),
                                                                                        SV.raw (Value.tuple #[])]
                                                                                      [Ent.mk (Loc.sl ao cap) (SObj.roL c0 (1 : Nat) encByte bs (0 : Int)),
                                                                                        Ent.mk (Loc.blk b)
                                                                                          (SObj.cells
                                                                                            [SV.str (ByteArray.mk #[(97 : UInt8)]), SV.str (ByteArray.mk #[(98 : UInt8)]),
                                                                                              SV.str (ByteArray.mk #[(99 : UInt8)])]
                                                                                            (47 : Nat)),
                                                                                        Ent.mk (Loc.blk b_1)
                                                                                          (SObj.mapV (@none IntKind)
                                                                                            [(Key.s (ByteArray.mk #[(97 : UInt8)]), SV.ptr (4 : Nat) b_3 (0 : Nat)),
                                                                                              (Key.s (ByteArray.mk #[(98 : UInt8)]), SV.ptr (5 : Nat) b_4 (0 : Nat)),
                                                                                              (Key.s (ByteArray.mk #[(99 : UInt8)]), SV.ptr (6 : Nat) b_5 (0 : Nat))]),
                                                                                        Ent.mk (Loc.blk b_2)
                                                                                          (SObj.cells
                                                                                            [SV.map (2 : Nat) b_1, SV.raw (Value.slice (@none Addr) (0 : Nat) (0 : Nat)), SV.int IntKind.i64 (0 : Int)]
                                                                                            (120 : Nat)),
                                                                                        Ent.mk (Loc.blk b_3) (SObj.cells [SV.raw (Value.slice (@none Addr) (0 : Nat) (0 : Nat))] (125 : Nat)),
                                                                                        Ent.mk (Loc.blk b_4) (SObj.cells [SV.raw (Value.slice (@none Addr) (0 : Nat) (0 : Nat))] (125 : Nat)),
                                                                                        Ent.mk (Loc.blk b_5) (SObj.cells [SV.raw (Value.slice (@none Addr) (0 : Nat) (0 : Nat))] (125 : Nat)),
                                                                                        Ent.mk (Loc.blk b_6)
                                                                                          (SObj.cells
                                                                                            [SV.raw (Value.slice (@none Addr) (0 : Nat) (0 : Nat)),
                                                                                              SV.raw (Value.slice (@none Addr) (0 : Nat) (0 : Nat)),
                                                                                              SV.raw (Value.slice (@none Addr) (0 : Nat) (0 : Nat))]
                                                                                            (49 : Nat))])) := by kernel_rfl


end Go.Proofs.Ytjnkfgigpapeaaa
