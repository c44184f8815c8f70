import Derived.Test.YtihajdkipkfiiaaTfC
import Derived.Test.YtihajdkipkfiiaaRaw
import Derived.Test.YtihajdkipkfiiaaTab
namespace Go.Proofs.Ytihajdkipkfiiaa
set_option linter.unusedVariables false
open Go Go.RowKit
set_option maxHeartbeats 0
set_option maxRecDepth 100000
set_option allowUnsafeReducibility true
set_option maxRecDepth 100000

theorem known19 (K : List Frm → Sy → Prop) (N : List Ent → SV → Prop) : (run Try.prog tkT false [] K (retP Try.prog Try.f29.results.toList N) 3000 [.code (bodyOf Try.f29)] ⟨padTo 52 [], []⟩) = (
true = true ∧
 ∀ (b bo bp : Nat),
  true = true ∧
   b = b ∧
    ∃ (h : Trk = Trk),
     AdtIs (fun (s : Trk) (b : Nat) ↦ packs (trkE s b)) trkE ∧
      ∀ (nb : Nat),
       true = true ∧
        b = b ∧
         ∃ (h : Trk = Trk),
          AdtIs (fun (s : Trk) (b : Nat) ↦ packs (trkE s b)) trkE ∧
           ∀ (nb_1 : Nat),
            true = true ∧
             b = b ∧
              ∃ (h : Trk = Trk),
               AdtIs (fun (s : Trk) (b : Nat) ↦ packs (trkE s b)) trkE ∧
                tOk
                 (Trk.mk bo bp [(Key.i IntKind.i64 (2 : Int), ByteArray.mk #[(97 : UInt8)]), (Key.i IntKind.i64 (3 : Int), ByteArray.mk #[(97 : UInt8)])]
                  [(Key.s (ByteArray.mk #[(97 : UInt8)]), nb, [(Key.i IntKind.i64 (2 : Int), PUnit.unit), (Key.i IntKind.i64 (3 : Int), PUnit.unit)])])
                 (2 : Int) ∧
                 true = true ∧
                  b = b ∧
                   ∃ (h : Trk = Trk),
                    AdtIs (fun (s : Trk) (b : Nat) ↦ packs (trkE s b)) trkE ∧
                     true = true ∧
                      b = b ∧
                       ∃ (h : Trk = Trk),
                        AdtIs (fun (s : Trk) (b : Nat) ↦ packs (trkE s b)) trkE ∧
                         ∀ (nb_2 : Nat),
                          true = true ∧
                           b = b ∧
                            ∃ (h : Trk = Trk),
                             AdtIs (fun (s : Trk) (b : Nat) ↦ packs (trkE s b)) trkE ∧
                              ∀ (nb_3 : Nat),
                               N
                                [pkA b trkE
                                 (Trk.mk bo bp [(Key.i IntKind.i64 (3 : Int), ByteArray.mk #[(97 : UInt8)])]
                                  [(Key.s (ByteArray.mk #[(97 : UInt8)]), nb, [(Key.i IntKind.i64 (3 : Int), PUnit.unit)])])]
                                (SV.bool true)) := by kernel_rfl


theorem tf_start (K : List Frm → Sy → Prop) (N : List Ent → SV → Prop) (ao : Option Addr) (cap : Nat) (bs : List Int) : (run Try.prog tfT false [] K (retP Try.prog Try.f7.results.toList N) 3000 [.code (bodyOf Try.f7)] ⟨padTo 160 [.vec 0 ao bs.length cap], [⟨.sl ao cap, .roL 1 encU8 bs 0⟩]⟩) = (
true = true ∧
 match decide ((↑(List.length bs) : Int) > (80 : Int)) with
 | true => N [Ent.mk (Loc.sl ao cap) (SObj.roL 1 encU8 bs (0 : Int))] (SV.bool true)
 | false =>
  true = true ∧
   ∀ (b bo bp : Nat),
    true = true ∧
     b = b ∧
      ∃ (h : Trk = Trk),
       AdtIs (fun (s : Trk) (b : Nat) ↦ packs (trkE s b)) trkE ∧
        ∀ (nb : Nat),
         true = true ∧
          b = b ∧
           ∃ (h : Trk = Trk),
            AdtIs (fun (s : Trk) (b : Nat) ↦ packs (trkE s b)) trkE ∧
             ∀ (nb_1 : Nat),
              (true = true ∧ 1 = 1 ∧ 0 < 4 ∧ 4 ≤ 16777216) ∧
               ∀ (b_1 : Nat),
                K (frm [] (bodyOf Try.f7) [1, 1, 1, 1, 1, 1, 0, 1, 0] [])
                 (Sy.mk (SV.vec 0 ao (List.length bs) cap :: (SV.raw (Value.tuple #[]) :: (SV.bool false :: (SV.ptr 1 b 0 :: (SV.vec 2 (some (Addr.mk b_1 0 (@none Nat))) 4 4 :: (SV.int IntKind.i64 (0 : Int) :: (rawE (SV.bool true :: (SV.bool false :: (SV.vec 0 ao (List.length bs) cap :: (SV.int IntKind.i64 (↑(List.length bs) : Int) :: (SV.bool false :: (SV.ptr 1 b 0 :: (SV.ptr 1 b 0 :: (SV.int IntKind.i64 (0 : Int) :: (SV.bool false :: (SV.bool false :: (SV.ptr 1 b 0 :: (SV.int IntKind.i64 (0 : Int) :: (SV.bool false :: (SV.bool false :: (SV.vec 2 (some (Addr.mk b_1 0 (@none Nat))) 4 4 :: (rawE [] 131)))))))))))))))) 8)))))))
                  [Ent.mk (Loc.sl ao cap) (SObj.roL 1 encU8 bs (0 : Int)),
                   pkA b trkE
                    (Trk.mk bo bp [(Key.i IntKind.i64 (2 : Int), ByteArray.mk #[(97 : UInt8)]), (Key.i IntKind.i64 (3 : Int), ByteArray.mk #[(98 : UInt8)])]
                     [(Key.s (ByteArray.mk #[(97 : UInt8)]), nb, [(Key.i IntKind.i64 (2 : Int), PUnit.unit)]),
                      (Key.s (ByteArray.mk #[(98 : UInt8)]), nb_1, [(Key.i IntKind.i64 (3 : Int), PUnit.unit)])]),
                   Ent.mk (Loc.blk b_1)
                    (SObj.cells [SV.int IntKind.i64 (0 : Int), SV.int IntKind.i64 (0 : Int), SV.int IntKind.i64 (1 : Int), SV.int IntKind.i64 (2 : Int)] 3)])) := by kernel_rfl
end Go.Proofs.Ytihajdkipkfiiaa
