import Derived.Test.YtjnkfgigpapeaaaPort2C
import Derived.Test.YtjnkfgigpapeaaaTab
namespace Go.Proofs.Ytjnkfgigpapeaaa
set_option linter.unusedVariables false
open Go Go.RowKit
set_option maxHeartbeats 0
set_option maxRecDepth 100000

theorem po_start (K : List Frm → Sy → Prop) (N : List Ent → SV → Prop) (c0 : Ch) (cap : Nat) (ao : Option Addr) (bs : List Int) : (run Try.prog port4 false [] K (retP Try.prog Try.f8.results.toList N) 600 [.code (bodyOf Try.f8)] ⟨padTo 103 [.vec 0 ao bs.length cap], [⟨.sl ao cap, .roL c0 1 encByte bs 0⟩]⟩) = (
true = true ∧
  match decide ((↑(List.length bs) : Int) > (100 : Int)) with
  | true => N [Ent.mk (Loc.sl ao cap) (SObj.roL c0 (1 : Nat) encByte bs (0 : Int))] (SV.bool true)
  | false =>
    true = true ∧
      ∀ (b : Nat),
        (true = true ∧ true = true) ∧
          true = true ∧
            ∀ (b_1 : Nat),
              true = true ∧
                b_1 = b_1 ∧
                  (b = b ∧ @none IntKind = @none IntKind ∧ @none IntKind = @none IntKind) ∧
                    b_1 = b_1 ∧
                      (true = true ∧ true = true) ∧
                        true = true ∧
                          ∀ (b_2 : Nat),
                            (b = b ∧ @none IntKind = @none IntKind ∧ @none IntKind = @none IntKind) ∧
                              K (frm [] (bodyOf Try.f8) [(1 : Nat), (1 : Nat), (1 : Nat), (1 : Nat), (1 : Nat), (1 : Nat), (1 : Nat), (0 : Nat), (1 : Nat), (0 : Nat)] [])
                                (Sy.mk
                                  [SV.vec (0 : Nat) ao (List.length bs) cap, SV.raw (Value.tuple #[]), SV.bool false, SV.ptr (2 : Nat) b_1 (0 : Nat),
                                    SV.raw (Value.slice (@none Addr) (0 : Nat) (0 : Nat)), SV.int IntKind.i64 (0 : Int), SV.int IntKind.i64 (0 : Int), SV.raw (Value.tuple #[]),
                                    SV.raw (Value.tuple #[]), SV.raw (Value.tuple #[]), SV.raw (Value.tuple #[]), SV.bool true, SV.bool false, SV.vec (0 : Nat) ao (List.length bs) cap,
                                    SV.int IntKind.i64 (↑(List.length bs) : Int), SV.bool false, SV.ptr (2 : Nat) b_1 (0 : Nat), SV.ptr (2 : Nat) b_1 (0 : Nat), SV.int IntKind.i64 (0 : Int),
                                    SV.bool false, SV.raw (Value.tuple #[]), SV.raw (Value.tuple #[]), SV.raw (Value.tuple #[]), SV.raw (Value.tuple #[]), SV.raw (Value.tuple #[]),
                                    SV.raw (Value.tuple #[]), SV.raw (Value.tuple #[]), SV.raw (Value.tuple #[]), SV.raw (Value.tuple #[]), SV.raw (Value.tuple #[]), SV.raw (Value.tuple #[]),
                                    SV.raw (Value.tuple #[]), SV.raw (Value.tuple #[]), SV.raw (Value.tuple #[]), SV.raw (Value.tuple #[]), SV.raw (Value.tuple #[]), SV.raw (Value.tuple #[]),
                                    SV.raw (Value.tuple #[]), SV.raw (Value.tuple #[]), SV.raw (Value.tuple #[]), SV.raw (Value.tuple #[]), SV.raw (Value.tuple #[]), SV.raw (Value.tuple #[]),
                                    SV.raw (Value.tuple #[]), SV.raw (Value.tuple #[]), SV.raw (Value.tuple #[]), SV.raw (Value.tuple #[]), SV.raw (Value.tuple #[]), SV.raw (Value.tuple #[]),
                                    SV.raw (Value.tuple #[]), SV.raw (Value.tuple #[]), SV.raw (Value.tuple #[]), SV.raw (Value.tuple #[]), SV.raw (Value.tuple #[]), SV.raw (Value.tuple #[]),
                                    SV.raw (Value.tuple #[]), SV.raw (Value.tuple #[]), SV.raw (Value.tuple #[]), SV.raw (Value.tuple #[]), SV.raw (Value.tuple #[]), SV.raw (Value.tuple #[]),
                                    SV.raw (Value.tuple #[]), SV.raw (Value.tuple #[]), SV.raw (Value.tuple #[]), SV.raw (Value.tuple #[]), SV.raw (Value.tuple #[]), SV.raw (Value.tuple #[]),
                                    SV.raw (Value.tuple #[]), SV.raw (Value.tuple #[]), SV.raw (Value.tuple #[]), SV.raw (Value.tuple #[]), SV.raw (Value.tuple #[]), SV.raw (Value.tuple #[]),
                                    SV.raw (Value.tuple #[]), SV.raw (Value.tuple #[]), SV.raw (Value.tuple #[]), SV.raw (Value.tuple #[]), SV.raw (Value.tuple #[]), SV.raw (Value.tuple #[]),
                                    SV.raw (Value.tuple #[]), SV.raw (Value.tuple #[]), SV.raw (Value.tuple #[]), SV.raw (Value.tuple #[]), SV.raw (Value.tuple #[]), SV.raw (Value.tuple #[]),
                                    SV.raw (Value.tuple #[]), SV.raw (Value.tuple #[]), SV.raw (Value.tuple #[]), SV.raw (Value.tuple #[]), SV.raw (Value.tuple #[]), SV.raw (Value.tuple #[]),
                                    SV.raw (Value.tuple #[]), SV.raw (Value.tuple #[]), SV.raw (Value.tuple #[]), SV.raw (Value.tuple #[]), SV.raw (Value.tuple #[]), SV.raw (Value.tuple #[]),
                                    SV.raw (Value.tuple #[]), SV.raw (Value.tuple #[]), SV.raw (Value.tuple #[]), SV.raw (Value.tuple #[]), SV.raw (Value.tuple #[]), SV.raw (Value.tuple #[])]
                                  [Ent.mk (Loc.sl ao cap) (SObj.roL c0 (1 : Nat) encByte bs (0 : Int)),
                                    Ent.mk (Loc.blk b) (SObj.mapV (@none IntKind) [(Key.s (ByteArray.mk #[(115 : UInt8)]), SV.ptr (3 : Nat) b_2 (0 : Nat))]),
                                    Ent.mk (Loc.blk b_1) (SObj.cells [SV.map (1 : Nat) b, SV.raw (Value.slice (@none Addr) (0 : Nat) (0 : Nat)), SV.int IntKind.i64 (0 : Int)] (120 : Nat)),
                                    Ent.mk (Loc.blk b_2) (SObj.cells [SV.raw (Value.slice (@none Addr) (0 : Nat) (0 : Nat))] (125 : Nat))])) := by kernel_rfl


end Go.Proofs.Ytjnkfgigpapeaaa
