import Derived.Test.YtihajdkipkfiiaaIntC
import Derived.Test.YtihajdkipkfiiaaRaw
import Derived.Test.YtihajdkipkfiiaaTab
namespace Go.Proofs.Ytihajdkipkfiiaa
set_option linter.unusedVariables false
open Go Go.RowKit
set_option maxHeartbeats 0
set_option maxRecDepth 100000
set_option maxRecDepth 100000

theorem ints_run (K : List Frm → Sy → Prop) (N : List Ent → SV → Prop) (xs : List Int) (ao ao' : Option Addr) (cap cap' : Nat) : (run Try.prog [] false [] K (retP Try.prog Try.f17.results.toList N) 600 [.code (bodyOf Try.f17)] ⟨padTo 26 [.vec 0 ao xs.length cap, .vec 1 ao' xs.length cap'], [⟨.sl ao cap, .vecL 3 1 encI1 xs 0⟩, ⟨.sl ao' cap', .vecL 3 1 encI1 xs 0⟩]⟩) = (
match (↑(List.length xs) : Int) != (↑(List.length xs) : Int) with
| true => N [Ent.mk (Loc.sl ao cap) (SObj.vecL (3 : TypeId) 1 encI1 xs (0 : Int)), Ent.mk (Loc.sl ao' cap') (SObj.vecL (3 : TypeId) 1 encI1 xs (0 : Int))] (SV.bool false)
| false =>
 K (frm [] (bodyOf Try.f17) [1, 1, 0, 1, 0] [])
  (Sy.mk (SV.vec 0 ao (List.length xs) cap :: (SV.vec 1 ao' (List.length xs) cap' :: (SV.raw (Value.tuple #[]) :: (SV.raw (Value.tuple #[]) :: (SV.bool false :: (SV.int IntKind.i64 (0 : Int) :: (SV.vec 0 ao (List.length xs) cap :: (SV.int IntKind.i64 (↑(List.length xs) : Int) :: (SV.vec 1 ao' (List.length xs) cap' :: (SV.int IntKind.i64 (↑(List.length xs) : Int) :: (SV.bool false :: (rawE [] 15))))))))))))
   [Ent.mk (Loc.sl ao cap) (SObj.vecL (3 : TypeId) 1 encI1 xs (0 : Int)), Ent.mk (Loc.sl ao' cap') (SObj.vecL (3 : TypeId) 1 encI1 xs (0 : Int))])) := by kernel_rfl


theorem ints_body (K : List Frm → Sy → Prop) (N : List Ent → SV → Prop) (J : Act → World → Prop) (xs : List Int) (ao ao' : Option Addr) (cap cap' : Nat) (i : Nat) (u : Nat → Value) : (run Try.prog [] false [] K (retP Try.prog Try.f17.results.toList N) 900 (frm [J] (bodyOf Try.f17) [1, 1, 0, 1, 0, 0] []) ⟨mkT u 26 0 [(0, .vec 0 ao xs.length cap), (1, .vec 1 ao' xs.length cap'), (5, .int .i64 (i : Int))], [⟨.sl ao cap, .vecL 3 1 encI1 xs 0⟩, ⟨.sl ao' cap', .vecL 3 1 encI1 xs 0⟩]⟩) = (
match decide ((↑i : Int) < (↑(List.length xs) : Int)) with
| true =>
 (ao = ao ∧ cap = cap ∧ List.length xs = List.length xs ∧ (0 : Int) ≤ (↑i : Int) ∧ (↑i : Int) < (↑(List.length xs) : Int)) ∧
  (Addr.blkD ao = Addr.blkD ao ∧ Addr.offD ao = Addr.offD ao ∧ 1 = 1 ∧ Int.toNat (↑i : Int) < List.length xs) ∧
   (ao' = ao' ∧ cap' = cap' ∧ List.length xs = List.length xs ∧ (0 : Int) ≤ (↑i : Int) ∧ (↑i : Int) < (↑(List.length xs) : Int)) ∧
    (Addr.blkD ao' = Addr.blkD ao' ∧ Addr.offD ao' = Addr.offD ao' ∧ 1 = 1 ∧ Int.toNat (↑i : Int) < List.length xs) ∧
     match List.getD xs (Int.toNat (↑i : Int)) (0 : Int) != List.getD xs (Int.toNat (↑i : Int)) (0 : Int) with
     | true => N [Ent.mk (Loc.sl ao cap) (SObj.vecL (3 : TypeId) 1 encI1 xs (0 : Int)), Ent.mk (Loc.sl ao' cap') (SObj.vecL (3 : TypeId) 1 encI1 xs (0 : Int))] (SV.bool false)
     | false =>
      K (Frm.loop J :: Frm.blk 0 :: frm [] (bodyOf Try.f17) [1, 1, 1] [])
       (Sy.mk (SV.vec 0 ao (List.length xs) cap :: (SV.vec 1 ao' (List.length xs) cap' :: (rawR u 2 (SV.int IntKind.i64 (IntKind.wrap IntKind.i64 ((↑i : Int) + (1 : Int))) :: (rawR u 6 (SV.int IntKind.i64 (↑i : Int) :: (SV.vec 0 ao (List.length xs) cap :: (SV.int IntKind.i64 (↑(List.length xs) : Int) :: (SV.bool true :: (SV.int IntKind.i64 (↑i : Int) :: (SV.int IntKind.i64 (IntKind.wrap IntKind.i64 ((↑i : Int) + (1 : Int))) :: (SV.vec 0 ao (List.length xs) cap :: (SV.int IntKind.i64 (↑i : Int) :: (SV.eptr 0 (Addr.blkD ao) (Addr.offD ao) 1 (Int.toNat (↑i : Int)) 0 :: (SV.int IntKind.i64 (List.getD xs (Int.toNat (↑i : Int)) (0 : Int)) :: (SV.vec 1 ao' (List.length xs) cap' :: (SV.int IntKind.i64 (↑i : Int) :: (SV.eptr 1 (Addr.blkD ao') (Addr.offD ao') 1 (Int.toNat (↑i : Int)) 0 :: (SV.int IntKind.i64 (List.getD xs (Int.toNat (↑i : Int)) (0 : Int)) :: (SV.bool false :: []))))))))))))))) 5)) 3)))
        [Ent.mk (Loc.sl ao cap) (SObj.vecL (3 : TypeId) 1 encI1 xs (0 : Int)), Ent.mk (Loc.sl ao' cap') (SObj.vecL (3 : TypeId) 1 encI1 xs (0 : Int))])
| false => N [Ent.mk (Loc.sl ao cap) (SObj.vecL (3 : TypeId) 1 encI1 xs (0 : Int)), Ent.mk (Loc.sl ao' cap') (SObj.vecL (3 : TypeId) 1 encI1 xs (0 : Int))] (SV.bool true)) := by kernel_rfl
end Go.Proofs.Ytihajdkipkfiiaa
