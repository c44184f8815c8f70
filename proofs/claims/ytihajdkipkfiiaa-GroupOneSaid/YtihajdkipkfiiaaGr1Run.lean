import Derived.Test.YtihajdkipkfiiaaGrpC
import Derived.Test.YtihajdkipkfiiaaTab
namespace Go.Proofs.Ytihajdkipkfiiaa
set_option linter.unusedVariables false
open Go Go.RowKit
set_option maxHeartbeats 0
set_option maxRecDepth 100000
set_option maxRecDepth 100000

theorem idxS_start (K : List Frm → Sy → Prop) (N : List Ent → SV → Prop) (ao : Option Addr) (cap : Nat) (xs : List ByteArray) (v : ByteArray) : (run Try.prog [] false [] K (retP Try.prog Try.f95.results.toList N) 300 [.code (bodyOf Try.f95)] ⟨padTo 19 [.vec 0 ao xs.length cap, .str v], [⟨.sl ao cap, .vecL 9 1 encS xs ByteArray.empty⟩]⟩) = (
K (frm [] (bodyOf Try.f95) [1, 0, 1, 0] [])
 (Sy.mk
  [SV.vec 0 ao (List.length xs) cap, SV.str v, SV.raw (Value.tuple #[]), SV.raw (Value.tuple #[]), SV.int IntKind.i64 (0 : Int), SV.raw (Value.tuple #[]),
   SV.vec 0 ao (List.length xs) cap, SV.int IntKind.i64 (↑(List.length xs) : Int), SV.int IntKind.i64 (0 : Int), SV.raw (Value.tuple #[]), SV.raw (Value.tuple #[]),
   SV.raw (Value.tuple #[]), SV.raw (Value.tuple #[]), SV.raw (Value.tuple #[]), SV.raw (Value.tuple #[]), SV.raw (Value.tuple #[]), SV.raw (Value.tuple #[]), SV.raw (Value.tuple #[]),
   SV.raw (Value.tuple #[])]
  [Ent.mk (Loc.sl ao cap) (SObj.vecL (9 : TypeId) 1 encS xs ByteArray.empty)])) := by kernel_rfl


theorem idxF_start (K : List Frm → Sy → Prop) (N : List Ent → SV → Prop) (ao : Option Addr) (cap b : Nat) (xs : List ByteArray) (nm : ByteArray) : (run Try.prog gT0 false [] K (retP Try.prog Try.f108.results.toList N) 300 [.code (bodyOf Try.f108)] ⟨padTo 19 [.vec 0 ao xs.length cap, .func (.func 91) [] [.ptr 1 b 0]], [⟨.sl ao cap, .vecL 9 1 encS xs ByteArray.empty⟩, ⟨.blk b, .cells [.str nm] 9⟩]⟩) = (
K (frm [] (bodyOf Try.f108) [1, 0, 1, 0] [])
 (Sy.mk
  [SV.vec 0 ao (List.length xs) cap, SV.func (Fn.func (91 : FuncId)) [] [SV.ptr 1 b 0], SV.raw (Value.tuple #[]), SV.raw (Value.tuple #[]), SV.int IntKind.i64 (0 : Int),
   SV.raw (Value.tuple #[]), SV.vec 0 ao (List.length xs) cap, SV.int IntKind.i64 (↑(List.length xs) : Int), SV.int IntKind.i64 (0 : Int), SV.raw (Value.tuple #[]),
   SV.raw (Value.tuple #[]), SV.raw (Value.tuple #[]), SV.raw (Value.tuple #[]), SV.raw (Value.tuple #[]), SV.raw (Value.tuple #[]), SV.raw (Value.tuple #[]), SV.raw (Value.tuple #[]),
   SV.raw (Value.tuple #[]), SV.raw (Value.tuple #[])]
  [Ent.mk (Loc.sl ao cap) (SObj.vecL (9 : TypeId) 1 encS xs ByteArray.empty), Ent.mk (Loc.blk b) (SObj.cells [SV.str nm] (9 : TypeId))])) := by kernel_rfl


theorem has_run (K : List Frm → Sy → Prop) (N : List Ent → SV → Prop) (b : Nat) (es : List (Key × Unit)) (v : Int) : (run Try.prog [] false [] K (retP Try.prog Try.f71.results.toList N) 300 [.code (bodyOf Try.f71)] ⟨padTo 14 [.map 0 b, .int .i64 v], [⟨.blk b, .mapL (some .i64) encU es⟩]⟩) = (
(b = b ∧ some IntKind.i64 = some IntKind.i64 ∧ some IntKind.i64 = some IntKind.i64) ∧
 match mget es (Key.i IntKind.i64 v) with
 | some v =>
  ∀ (b_1 : Nat),
   (b_1 = b_1 ∧ true = true ∧ 0 = 0 ∧ 0 ≤ 0) ∧
    N [Ent.mk (Loc.blk b) (SObj.mapL (some IntKind.i64) encU es), Ent.mk (Loc.blk b_1) (SObj.cells [] 145)] (SV.bool true)
 | none =>
  ∀ (b_1 : Nat),
   (b_1 = b_1 ∧ true = true ∧ 0 = 0 ∧ 0 ≤ 0) ∧
    N [Ent.mk (Loc.blk b) (SObj.mapL (some IntKind.i64) encU es), Ent.mk (Loc.blk b_1) (SObj.cells [] 145)] (SV.bool false)) := by kernel_rfl
end Go.Proofs.Ytihajdkipkfiiaa
