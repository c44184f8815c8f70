import Derived.Test.YtihajdkipkfiiaaValIC
import Derived.Test.YtihajdkipkfiiaaRaw
import Derived.Test.YtihajdkipkfiiaaTab
namespace Go.Proofs.Ytihajdkipkfiiaa
set_option linter.unusedVariables false
open Go Go.RowKit
set_option maxHeartbeats 0
set_option maxRecDepth 100000
set_option maxRecDepth 100000

theorem vI_start (K : List Frm → Sy → Prop) (X : Code → Sy → Prop) (E : Sy → Prop) (xs : List Int) (bx : Nat) (ao : Option Addr) (cap : Nat) (fv : Value) (R : Nat → List Ent) (Stop : List Ent → Prop) : (runR Try.prog [] (valIY fv xs R Stop) true [] K X E 300 [.code (bodyOf Try.f99)] ⟨padTo 16 [.raw fv, .ptr 0 bx 0], [⟨.blk bx, .cells [.vec 1 ao xs.length cap] 32⟩, ⟨.sl ao cap, .vecL 3 1 encI1 xs 0⟩, pk 0 (R 0)]⟩) = (
bx = bx ∧
 K (frm [] (bodyOf Try.f99) [1, 0] [])
  (Sy.mk (SV.raw fv :: (SV.ptr 0 bx 0 :: (rawE (SV.vec 1 ao (List.length xs) cap :: (SV.int IntKind.i64 (↑(List.length xs) : Int) :: (SV.int IntKind.i64 (0 : Int) :: (rawE [] 8)))) 3)))
   [Ent.mk (Loc.blk bx) (SObj.cells [SV.vec 1 ao (List.length xs) cap] (32 : TypeId)), Ent.mk (Loc.sl ao cap) (SObj.vecL (3 : TypeId) 1 encI1 xs (0 : Int)),
    pk 0 (R 0)])) := by kernel_rfl


theorem vI_body (K : List Frm → Sy → Prop) (X : Code → Sy → Prop) (E : Sy → Prop) (J : Act → World → Prop) (xs : List Int) (bx : Nat) (ao : Option Addr) (cap : Nat) (fv : Value) (R : Nat → List Ent) (Stop : List Ent → Prop) (i : Nat) (u : Nat → Value) : (runR Try.prog [] (valIY fv xs R Stop) true [] K X E 900 (frm [J] (bodyOf Try.f99) [1, 0, 0] []) ⟨mkT u 16 0 [(0, .raw fv), (1, .ptr 0 bx 0), (5, .vec 1 ao xs.length cap), (6, .int .i64 (xs.length : Int)), (7, .int .i64 (i : Int))], [⟨.blk bx, .cells [.vec 1 ao xs.length cap] 32⟩, ⟨.sl ao cap, .vecL 3 1 encI1 xs 0⟩, pk 0 (R i)]⟩) = (
match decide ((↑i : Int) < (↑(List.length xs) : Int)) with
| true =>
 (ao = ao ∧ cap = cap ∧ List.length xs = List.length xs ∧ (0 : Int) ≤ (↑i : Int) ∧ (↑i : Int) < (↑(List.length xs) : Int)) ∧
  (Addr.blkD ao = Addr.blkD ao ∧ Addr.offD ao = Addr.offD ao ∧ 1 = 1 ∧ Int.toNat (↑i : Int) < List.length xs) ∧
   fv = fv ∧
    ∃ (i_1 : Nat),
     ∃ (x : Int),
      xs[i_1]? = some x ∧
       [SV.int IntKind.i64 (List.getD xs (Int.toNat (↑i : Int)) (0 : Int))] = [SV.int IntKind.i64 x] ∧
        pk 0 (R i) = pk 0 (R i_1) ∧
         K [Frm.loop J, Frm.blk 0]
          (Sy.mk (SV.raw fv :: (SV.ptr 0 bx 0 :: (SV.raw (u 2) :: (SV.raw (u 3) :: (SV.int IntKind.i64 (List.getD xs (Int.toNat (↑i : Int)) (0 : Int)) :: (SV.vec 1 ao (List.length xs) cap :: (SV.int IntKind.i64 (↑(List.length xs) : Int) :: (SV.int IntKind.i64 (IntKind.wrap IntKind.i64 ((↑i : Int) + (1 : Int))) :: (SV.bool true :: (SV.eptr 1 (Addr.blkD ao) (Addr.offD ao) 1 (Int.toNat (↑i : Int)) 0 :: (SV.int IntKind.i64 (List.getD xs (Int.toNat (↑i : Int)) (0 : Int)) :: (SV.raw fv :: (SV.int IntKind.i64 (List.getD xs (Int.toNat (↑i : Int)) (0 : Int)) :: (SV.bool true :: (SV.bool false :: (SV.int IntKind.i64 (IntKind.wrap IntKind.i64 ((↑i : Int) + (1 : Int))) :: []))))))))))))))))
           [Ent.mk (Loc.blk bx) (SObj.cells [SV.vec 1 ao (List.length xs) cap] (32 : TypeId)), Ent.mk (Loc.sl ao cap) (SObj.vecL (3 : TypeId) 1 encI1 xs (0 : Int)),
            pk 0 (R (i_1 + 1))]) ∧
          ∀ (R' : List Ent),
           Stop R' →
            X Code.ret
             (Sy.mk (SV.raw fv :: (SV.ptr 0 bx 0 :: (SV.raw (u 2) :: (SV.raw (u 3) :: (SV.int IntKind.i64 (List.getD xs (Int.toNat (↑i : Int)) (0 : Int)) :: (SV.vec 1 ao (List.length xs) cap :: (SV.int IntKind.i64 (↑(List.length xs) : Int) :: (SV.int IntKind.i64 (↑i : Int) :: (SV.bool true :: (SV.eptr 1 (Addr.blkD ao) (Addr.offD ao) 1 (Int.toNat (↑i : Int)) 0 :: (SV.int IntKind.i64 (List.getD xs (Int.toNat (↑i : Int)) (0 : Int)) :: (SV.raw fv :: (SV.int IntKind.i64 (List.getD xs (Int.toNat (↑i : Int)) (0 : Int)) :: (SV.bool false :: (SV.bool true :: (SV.raw (u 15) :: []))))))))))))))))
              [Ent.mk (Loc.blk bx) (SObj.cells [SV.vec 1 ao (List.length xs) cap] (32 : TypeId)), Ent.mk (Loc.sl ao cap) (SObj.vecL (3 : TypeId) 1 encI1 xs (0 : Int)),
               pk 0 R'])
| false =>
 E
  (Sy.mk (SV.raw fv :: (SV.ptr 0 bx 0 :: (rawR u 2 (SV.vec 1 ao (List.length xs) cap :: (SV.int IntKind.i64 (↑(List.length xs) : Int) :: (SV.int IntKind.i64 (↑i : Int) :: (SV.bool false :: (rawR u 9 [] 7))))) 3)))
   [Ent.mk (Loc.blk bx) (SObj.cells [SV.vec 1 ao (List.length xs) cap] (32 : TypeId)), Ent.mk (Loc.sl ao cap) (SObj.vecL (3 : TypeId) 1 encI1 xs (0 : Int)), pk 0 (R i)])) := by kernel_rfl
end Go.Proofs.Ytihajdkipkfiiaa
