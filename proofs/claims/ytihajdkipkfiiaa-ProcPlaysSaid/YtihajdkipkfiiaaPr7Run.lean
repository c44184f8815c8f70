import Derived.Test.YtihajdkipkfiiaaPrcD
import Derived.Test.YtihajdkipkfiiaaTab
namespace Go.Proofs.Ytihajdkipkfiiaa
set_option linter.unusedVariables false
open Go Go.RowKit
set_option maxHeartbeats 0
set_option maxRecDepth 100000
set_option maxRecDepth 100000

theorem rp_start (K : List Frm → Sy → Prop) (X : Code → Sy → Prop) (E : Sy → Prop) (s : PT) (b : Nat) (parent : Int) : (runR Try.prog ptA (noY) true [] K X E 600 [.code (bodyOf Try.f25)] ⟨padTo 26 [.ptr 0 b 0, .int .i64 parent], [pkA b ptE s]⟩) = (
true = true ∧
 ∀ (b_1 : Nat),
  true = true ∧
   ∀ (b_2 b_3 b_4 : Nat),
    b_1 = b_1 ∧
     true = true ∧
      true = true ∧
       ∀ (b_5 : Nat),
        K (frm [] (bodyOf Try.f25) [1, 0, 1, 0] [])
         (Sy.mk
          [SV.ptr 0 b 0, SV.int IntKind.i64 parent, SV.ptr 1 b_1 0, SV.ptr 2 b_2 0, SV.ptr 3 b_3 0,
           SV.ptr 4 b_4 0, SV.raw (Value.tuple #[]), SV.ptr 0 b 0, SV.func (Fn.func 97) [] [SV.ptr 5 b_5 0],
           SV.raw (Value.tuple #[]), SV.raw (Value.tuple #[]), SV.raw (Value.tuple #[]), SV.raw (Value.tuple #[]), SV.raw (Value.tuple #[]), SV.raw (Value.tuple #[]),
           SV.raw (Value.tuple #[]), SV.raw (Value.tuple #[]), SV.raw (Value.tuple #[]), SV.raw (Value.tuple #[]), SV.raw (Value.tuple #[]), SV.raw (Value.tuple #[]),
           SV.raw (Value.tuple #[]), SV.raw (Value.tuple #[]), SV.raw (Value.tuple #[]), SV.raw (Value.tuple #[]), SV.raw (Value.tuple #[])]
          [pkA b ptE s, Ent.mk (Loc.blk b_1) (SObj.cells [SV.ptr 0 b 0] 38), Ent.mk (Loc.blk b_2) (SObj.cells [SV.int IntKind.i64 parent] 3),
           Ent.mk (Loc.blk b_3)
            (SObj.cells [SV.int IntKind.i64 (0 : Int), SV.int IntKind.i64 (0 : Int), SV.str (ByteArray.mk #[]), SV.bool false, SV.int IntKind.i64 (0 : Int), SV.str (ByteArray.mk #[])]
             45),
           Ent.mk (Loc.blk b_4) (SObj.cells [SV.int IntKind.i64 (0 : Int)] 27), Ent.mk (Loc.blk b_5) (SObj.cells [SV.ptr 0 b 0] 38)])) := by kernel_rfl
end Go.Proofs.Ytihajdkipkfiiaa
