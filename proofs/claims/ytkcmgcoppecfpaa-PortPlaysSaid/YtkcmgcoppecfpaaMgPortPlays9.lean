import Derived.Test.YtkcmgcoppecfpaaMgPortPlays6
import Derived.Shelf.SlIterI.Nil
import Derived.Shelf.SlIter.Nil
import Derived.Shelf.SortM.Plain
import Derived.Shelf.SortM.SortNone
import Derived.Ground.GgzProg
import Derived.Ground.SlgmProg
import Derived.Shelf.SlGeneric
import Derived.Test.YtkcmgcoppecfpaaProg
set_option linter.unusedVariables false
set_option linter.unusedSimpArgs false
set_option linter.unnecessarySimpa false
set_option maxHeartbeats 0
set_option maxRecDepth 100000
namespace Go.Proofs.Ytkcmgcoppecfpaa
open Go Go.RowKit

theorem pNm_run (K : List Frm → Sy → Prop) (N : List Ent → SV → Prop) (s : PS) (b : Nat) : (run Try.prog pnT true [] K (retP Try.prog Try.f77.results.toList N) 600 [.code (bodyOf Try.f77)] ⟨padTo 10 [.ptr 0 b 0], [⟨.blk b, .cells [.map 1 s.bm, .vec 2 s.aoD s.ds.length s.capD, .int .i64 s.last] 131⟩, ⟨.blk s.bm, .mapL none encPq (s.sk.map skB)⟩, ⟨.sl s.aoD s.capD, .vecL 49 2 encDN s.ds DN.zero⟩, pk 0 (s.sk.map skE)]⟩) = (
b = b ∧
 true = true ∧
  true = true ∧
   ∀ (b_1 : Nat),
    true = true ∧
     138 = 138 ∧
      (b_1 = b_1 ∧ s.1 = s.1 ∧ @none IntKind = @none IntKind ∧ wfS (List.map skB s.2)) ∧
       ∀ (ao : Option Addr) (cap : Nat),
        true = true ∧
         true = true ∧
          ∀ (b_2 : Nat),
           N
            [Ent.mk (Loc.blk b) (SObj.cells [SV.map 1 s.1, SV.vec 2 s.aoD (List.length s.5) s.4, SV.int IntKind.i64 s.6] (131 : TypeId)),
             Ent.mk (Loc.blk s.1) (SObj.mapL (@none IntKind) encPq (List.map skB s.2)),
             Ent.mk (Loc.sl s.aoD s.4) (SObj.vecL (49 : TypeId) 2 encDN s.5 (DN.mk (0 : Int) (ByteArray.mk #[]))), pk 0 (List.map skE s.2),
             Ent.mk (Loc.blk b_1) (SObj.cells [SV.map 1 s.1] 127), Ent.mk (Loc.sl ao cap) (SObj.vecL 9 1 encS1 (sortS (List.map skB s.2)) ByteArray.empty),
             Ent.mk (Loc.blk b_2) (SObj.cells [SV.vec 5 ao (List.length (sortS (List.map skB s.2))) cap] 56)]
            (SV.func (Fn.func 135) [] [SV.ptr 6 b_2 0])) := by kernel_rfl


theorem pl_start (K : List Frm → Sy → Prop) (X : Code → Sy → Prop) (E : Sy → Prop) (s : PS) (b : Nat) (bx : Nat) (fv : Value) (rr : List Ent) : (runR Try.prog [(77, namesPC)] (noY) true [] K X E 300 [.code (bodyOf Try.f76)] ⟨padTo 11 [.raw fv, .ptr 1 bx 0], [pkA b psE s, ⟨.blk bx, .cells [.ptr 0 b 0] 24⟩, pk 0 rr]⟩) = (
((match SV.raw fv with
 | SV.agg cs => false
 | SV.tuple cs => false
 | SV.raw (Value.agg cells) => false
 | SV.raw (Value.tuple vs) => false
 | SV.raw (Value.int k n) => true
 | SV.raw (Value.bool b) => true
 | SV.raw (Value.string s) => true
 | SV.raw (Value.pointer a) => true
 | SV.raw (Value.slice a len cap) => true
 | SV.raw (Value.map r) => true
 | SV.raw (Value.func fn first captured) => true
 | SV.raw Value.nilFunc => true
 | SV.raw (Value.iface t v) => true
 | SV.raw Value.nilIface => true
 | SV.raw v => false
 | x => true) &&
 true) =
 true ∧
 ∀ (b_1 : Nat),
  bx = bx ∧
   true = true ∧
    b = b ∧
     ∃ (h : PS = PS),
      AdtIs (fun (s : PS) (b : Nat) ↦ packs (psE s b)) psE ∧
       wfS (List.map skB (cast h s).sk) ∧
        ∀ (ao : Option Addr) (cap bx_1 : Nat),
         K (frm [] (bodyOf Try.f76) [1, 1, 0] [])
          (Sy.mk (SV.raw fv :: (SV.ptr 1 bx 0 :: (SV.ptr 3 b_1 0 :: (SV.raw (Value.tuple #[]) :: (SV.ptr 0 b 0 :: (SV.func (Fn.func (135 : FuncId)) [] [SV.ptr 5 bx_1 0] :: (rawE [] 5)))))))
           [pkA b psE s, Ent.mk (Loc.blk bx) (SObj.cells [SV.ptr 0 b 0] (24 : TypeId)), pk 0 rr, Ent.mk (Loc.blk b_1) (SObj.cells [SV.raw fv] 60),
            Ent.mk (Loc.sl ao cap) (SObj.vecL (9 : TypeId) 1 encS (sortS (List.map skB s.2)) ByteArray.empty),
            Ent.mk (Loc.blk bx_1) (SObj.cells [SV.vec 4 ao (List.length (sortS (List.map skB s.2))) cap] (56 : TypeId))])) := by kernel_rfl


theorem pl_asg (K : List Frm → Sy → Prop) (X : Code → Sy → Prop) (E : Sy → Prop) (s : PS) (b : Nat) (bx : Nat) (fv : Value) (rr : List Ent) (by_ D l : Nat) (rc : Loop) (x : ByteArray) (u : Nat → Value) : (runR Try.prog [] (noY) true [] K X E 60 ([.code (rfA (codeAt (bodyOf Try.f76) [1, 1, 0]))]) ⟨mkT u 11 0 [(1, .ptr 1 bx 0), (2, .ptr 2 by_ 0), (6, .str x)], [pkA b psE s, ⟨.blk bx, .cells [.ptr 0 b 0] 24⟩, ⟨.blk by_, .cells [.raw fv] 60⟩, pk 0 (rr), dent D true, lp l rc .ready none]⟩) = (
E
 (Sy.mk (SV.raw (u 0) :: (SV.ptr 1 bx 0 :: (SV.ptr 2 by_ 0 :: (SV.str x :: (SV.raw (u 4) :: (SV.raw (u 5) :: (SV.str x :: (rawR u 7 [] 4))))))))
  [pkA b psE s, Ent.mk (Loc.blk bx) (SObj.cells [SV.ptr 0 b 0] (24 : TypeId)), Ent.mk (Loc.blk by_) (SObj.cells [SV.raw fv] (60 : TypeId)), pk 0 rr, dent D true,
   lp l rc LoopState.ready (@none Code)])) := by kernel_rfl


theorem pl_body (K : List Frm → Sy → Prop) (X : Code → Sy → Prop) (E : Sy → Prop) (s : PS) (b : Nat) (bx : Nat) (fv : Value) (R : Nat → List Ent) (Stop : List Ent → Prop) (ns : List ByteArray) (i : Nat) (by_ D l : Nat) (rc : Loop) (x : ByteArray) (u : Nat → Value) : (runR Try.prog [] (allPY fv ns R Stop) true [] K X E 600 ([.code (rfB (codeAt (bodyOf Try.f76) [1, 1, 0]))]) ⟨mkT u 11 0 [(1, .ptr 1 bx 0), (2, .ptr 2 by_ 0), (3, .str x)], [pkA b psE s, ⟨.blk bx, .cells [.ptr 0 b 0] 24⟩, ⟨.blk by_, .cells [.raw fv] 60⟩, pk 0 (R i), dent D true, lp l rc .busy none]⟩) = (
by_ = by_ ∧
 fv = fv ∧
  ∃ (i_1 : Nat),
   ∃ (x_1 : ByteArray),
    ns[i_1]? = some x_1 ∧
     [SV.str x] = [SV.str x_1] ∧
      pk 0 (R i) = pk 0 (R i_1) ∧
       E
        (Sy.mk (SV.raw (u 0) :: (SV.ptr 1 bx 0 :: (SV.ptr 2 by_ 0 :: (SV.str x :: (rawR u 4 (SV.raw fv :: (SV.str x :: (SV.bool true :: (SV.bool false :: [])))) 3)))))
         [pkA b psE s, Ent.mk (Loc.blk bx) (SObj.cells [SV.ptr 0 b 0] (24 : TypeId)), Ent.mk (Loc.blk by_) (SObj.cells [SV.raw fv] (60 : TypeId)),
          pk 0 (R (i_1 + 1)), dent D true, lp l rc LoopState.busy (@none Code)]) ∧
        ∀ (R' : List Ent),
         Stop R' →
          X Code.ret
           (Sy.mk (SV.raw (u 0) :: (SV.ptr 1 bx 0 :: (SV.ptr 2 by_ 0 :: (SV.str x :: (rawR u 4 (SV.raw fv :: (SV.str x :: (SV.bool false :: (SV.bool true :: [])))) 3)))))
            [pkA b psE s, Ent.mk (Loc.blk bx) (SObj.cells [SV.ptr 0 b 0] (24 : TypeId)), Ent.mk (Loc.blk by_) (SObj.cells [SV.raw fv] (60 : TypeId)), pk 0 R',
             dent D true, lp l rc LoopState.busy (@none Code)])) := by kernel_rfl


theorem pl_end (K : List Frm → Sy → Prop) (E : Sy → Prop) (N : List Ent → SV → Prop) (s : PS) (b : Nat) (bx : Nat) (fv : Value) (rr : List Ent) (by_ D l : Nat) (rc : Loop) (u : Nat → Value) : (runR Try.prog [] (noY) true [] K (endMX Try.prog Try.f76.results.toList D 4 N) E 900 ((frm [] (bodyOf Try.f76) [1, 1, 0] []).tail) ⟨mkT u 11 0 [(1, .ptr 1 bx 0), (2, .ptr 2 by_ 0)], [pkA b psE s, ⟨.blk bx, .cells [.ptr 0 b 0] 24⟩, ⟨.blk by_, .cells [.raw fv] 60⟩, pk 0 (rr), dent D true, lp l rc .exhausted none]⟩) = (
E
 (Sy.mk (SV.raw (u 0) :: (SV.ptr 1 bx 0 :: (SV.ptr 2 by_ 0 :: (rawR u 3 [] 8))))
  [pkA b psE s, Ent.mk (Loc.blk bx) (SObj.cells [SV.ptr 0 b 0] (24 : TypeId)), Ent.mk (Loc.blk by_) (SObj.cells [SV.raw fv] (60 : TypeId)), pk 0 rr, dent D true,
   lp l rc LoopState.exhausted (@none Code)])) := by kernel_rfl


theorem pl_ret (K : List Frm → Sy → Prop) (E : Sy → Prop) (N : List Ent → SV → Prop) (s : PS) (b : Nat) (bx : Nat) (fv : Value) (rr : List Ent) (by_ D l : Nat) (rc : Loop) (u : Nat → Value) : (runR Try.prog [] (noY) true [] K (endMX Try.prog Try.f76.results.toList D 4 N) E 900 (Frm.code .ret :: (frm [] (bodyOf Try.f76) [1, 1, 0] []).tail) ⟨mkT u 11 0 [(1, .ptr 1 bx 0), (2, .ptr 2 by_ 0)], [pkA b psE s, ⟨.blk bx, .cells [.ptr 0 b 0] 24⟩, ⟨.blk by_, .cells [.raw fv] 60⟩, pk 0 (rr), dent D true, lp l rc .exhausted (some .ret)]⟩) = (
some (dent D true) = some (dent D true) ∧
 N
  [pkA b psE s, Ent.mk (Loc.blk bx) (SObj.cells [SV.ptr 0 b 0] (24 : TypeId)), Ent.mk (Loc.blk by_) (SObj.cells [SV.raw fv] (60 : TypeId)), pk 0 rr, dent D false,
   lp l rc LoopState.exhausted (some Code.ret)]
  (SV.tuple [])) := by kernel_rfl
end Go.Proofs.Ytkcmgcoppecfpaa

/- Layings of the kit's contracts for slices.Sorted and maps.Keys at this program, in plain words. -/
namespace Go.Proofs.Ytkcmgcoppecfpaa
open Go.Shelf
def keysQ_ren : Go.Shelf.Ren := ⟨fun | 7 => 112 | 10 => 138 | n => n, fun | 23 => 127 | 26 => 9 | 3 => 132 | 28 => 58 | 0 => 0 | 27 => 57 | 33 => 60 | 4 => 4 | n => n, fun | n => n⟩
theorem keysQ : Go.Proofs.SlLaysZ.n7 Try.prog keysQ_ren := {
  mixed := by kernel_rfl
  f7 := ⟨Try.f112.name, by decide, Try.func112.trans (congrArg some (by kernel_rfl))⟩
  f10 := ⟨Try.f138.name, by decide, Try.func138.trans (congrArg some (by kernel_rfl))⟩
  t0 := Try.underlying0
  a0 := Try.isAgg0
  z0 := Try.sizeOf0
  v0 := Try.zeroValue0
  t4 := Try.underlying4
  a4 := Try.isAgg4
  z4 := Try.sizeOf4
  v4 := Try.zeroValue4
  t23 := Try.underlying127
  a23 := Try.isAgg127
  z23 := Try.sizeOf127
  v23 := Try.zeroValue127
  t26 := Try.underlying9
  a26 := Try.isAgg9
  z26 := Try.sizeOf9
  v26 := Try.zeroValue9
  t27 := Try.underlying57
  a27 := Try.isAgg57
  z27 := Try.sizeOf57
  v27 := Try.zeroValue57
  t28 := Try.underlying58
  a28 := Try.isAgg58
  z28 := Try.sizeOf58
  v28 := Try.zeroValue58
  t33 := Try.underlying60
  a33 := Try.isAgg60
  z33 := Try.sizeOf60
  v33 := Try.zeroValue60 }
end Go.Proofs.Ytkcmgcoppecfpaa

namespace Go.Proofs.Ytkcmgcoppecfpaa
open Go Go.RowKit

theorem vS_start (K : List Frm → Sy → Prop) (X : Code → Sy → Prop) (E : Sy → Prop) (xs : List ByteArray) (bx : Nat) (ao : Option Addr) (cap : Nat) (fv : Value) (R : Nat → List Ent) (Stop : List Ent → Prop) : (runR Try.prog [] (valSY fv xs R Stop) true [] K X E 300 [.code (bodyOf Try.f135)] ⟨padTo 16 [.raw fv, .ptr 0 bx 0], [⟨.blk bx, .cells [.vec 1 ao xs.length cap] 56⟩, ⟨.sl ao cap, .vecL 9 1 encS xs ByteArray.empty⟩, pk 0 (R 0)]⟩) = (
bx = bx ∧
 K (frm [] (bodyOf Try.f135) [1, 0] [])
  (Sy.mk (SV.raw fv :: (SV.ptr 0 bx 0 :: (rawE (SV.vec 1 ao (List.length xs) cap :: (SV.int IntKind.i64 (↑(List.length xs) : Int) :: (SV.int IntKind.i64 (0 : Int) :: (rawE [] 8)))) 3)))
   [Ent.mk (Loc.blk bx) (SObj.cells [SV.vec 1 ao (List.length xs) cap] (56 : TypeId)), Ent.mk (Loc.sl ao cap) (SObj.vecL (9 : TypeId) 1 encS xs ByteArray.empty),
    pk 0 (R 0)])) := by kernel_rfl


theorem vS_body (K : List Frm → Sy → Prop) (X : Code → Sy → Prop) (E : Sy → Prop) (J : Act → World → Prop) (xs : List ByteArray) (bx : Nat) (ao : Option Addr) (cap : Nat) (fv : Value) (R : Nat → List Ent) (Stop : List Ent → Prop) (i : Nat) (u : Nat → Value) : (runR Try.prog [] (valSY fv xs R Stop) true [] K X E 900 (frm [J] (bodyOf Try.f135) [1, 0, 0] []) ⟨mkT u 16 0 [(0, .raw fv), (1, .ptr 0 bx 0), (5, .vec 1 ao xs.length cap), (6, .int .i64 (xs.length : Int)), (7, .int .i64 (i : Int))], [⟨.blk bx, .cells [.vec 1 ao xs.length cap] 56⟩, ⟨.sl ao cap, .vecL 9 1 encS xs ByteArray.empty⟩, pk 0 (R i)]⟩) = (
match decide ((↑i : Int) < (↑(List.length xs) : Int)) with
| true =>
 (ao = ao ∧ cap = cap ∧ List.length xs = List.length xs ∧ (0 : Int) ≤ (↑i : Int) ∧ (↑i : Int) < (↑(List.length xs) : Int)) ∧
  (Addr.blkD ao = Addr.blkD ao ∧ Addr.offD ao = Addr.offD ao ∧ 1 = 1 ∧ Int.toNat (↑i : Int) < List.length xs) ∧
   fv = fv ∧
    ∃ (i_1 : Nat),
     ∃ (x : ByteArray),
      xs[i_1]? = some x ∧
       [SV.str (List.getD xs (Int.toNat (↑i : Int)) ByteArray.empty)] = [SV.str x] ∧
        pk 0 (R i) = pk 0 (R i_1) ∧
         K [Frm.loop J, Frm.blk 0]
          (Sy.mk (SV.raw fv :: (SV.ptr 0 bx 0 :: (SV.raw (u 2) :: (SV.raw (u 3) :: (SV.str (List.getD xs (Int.toNat (↑i : Int)) ByteArray.empty) :: (SV.vec 1 ao (List.length xs) cap :: (SV.int IntKind.i64 (↑(List.length xs) : Int) :: (SV.int IntKind.i64 (IntKind.wrap IntKind.i64 ((↑i : Int) + (1 : Int))) :: (SV.bool true :: (SV.eptr 1 (Addr.blkD ao) (Addr.offD ao) 1 (Int.toNat (↑i : Int)) 0 :: (SV.str (List.getD xs (Int.toNat (↑i : Int)) ByteArray.empty) :: (SV.raw fv :: (SV.str (List.getD xs (Int.toNat (↑i : Int)) ByteArray.empty) :: (SV.bool true :: (SV.bool false :: (SV.int IntKind.i64 (IntKind.wrap IntKind.i64 ((↑i : Int) + (1 : Int))) :: []))))))))))))))))
           [Ent.mk (Loc.blk bx) (SObj.cells [SV.vec 1 ao (List.length xs) cap] (56 : TypeId)), Ent.mk (Loc.sl ao cap) (SObj.vecL (9 : TypeId) 1 encS xs ByteArray.empty),
            pk 0 (R (i_1 + 1))]) ∧
          ∀ (R' : List Ent),
           Stop R' →
            X Code.ret
             (Sy.mk (SV.raw fv :: (SV.ptr 0 bx 0 :: (SV.raw (u 2) :: (SV.raw (u 3) :: (SV.str (List.getD xs (Int.toNat (↑i : Int)) ByteArray.empty) :: (SV.vec 1 ao (List.length xs) cap :: (SV.int IntKind.i64 (↑(List.length xs) : Int) :: (SV.int IntKind.i64 (↑i : Int) :: (SV.bool true :: (SV.eptr 1 (Addr.blkD ao) (Addr.offD ao) 1 (Int.toNat (↑i : Int)) 0 :: (SV.str (List.getD xs (Int.toNat (↑i : Int)) ByteArray.empty) :: (SV.raw fv :: (SV.str (List.getD xs (Int.toNat (↑i : Int)) ByteArray.empty) :: (SV.bool false :: (SV.bool true :: (SV.raw (u 15) :: []))))))))))))))))
              [Ent.mk (Loc.blk bx) (SObj.cells [SV.vec 1 ao (List.length xs) cap] (56 : TypeId)),
               Ent.mk (Loc.sl ao cap) (SObj.vecL (9 : TypeId) 1 encS xs ByteArray.empty), pk 0 R'])
| false =>
 E
  (Sy.mk (SV.raw fv :: (SV.ptr 0 bx 0 :: (rawR u 2 (SV.vec 1 ao (List.length xs) cap :: (SV.int IntKind.i64 (↑(List.length xs) : Int) :: (SV.int IntKind.i64 (↑i : Int) :: (SV.bool false :: (rawR u 9 [] 7))))) 3)))
   [Ent.mk (Loc.blk bx) (SObj.cells [SV.vec 1 ao (List.length xs) cap] (56 : TypeId)), Ent.mk (Loc.sl ao cap) (SObj.vecL (9 : TypeId) 1 encS xs ByteArray.empty),
    pk 0 (R i)])) := by kernel_rfl
end Go.Proofs.Ytkcmgcoppecfpaa

/- slices.Values: going through a row. -/
namespace Go.Proofs.Ytkcmgcoppecfpaa
open Go Go.RowKit
theorem hmValS : Try.prog.follows .mixedOrders = true := by kernel_rfl

def OneS (fv : Value) (xs : List ByteArray) (R : Nat → List Ent) (Stop : List Ent → Prop) : Prop := ∀ i x, xs[i]? = some x → VSpec Try.prog fv [pk 0 (R i)] [.str x] fun h r => (h = [pk 0 (R (i + 1))] ∧ r = .bool true) ∨ ∃ R', Stop R' ∧ h = [pk 0 R'] ∧ r = .bool false
theorem valSY_ok {fv : Value} {xs : List ByteArray} {R : Nat → List Ent} {Stop : List Ent → Prop} (hV : OneS fv xs R Stop) : YOk Try.prog (valSY fv xs R Stop) := by
  rintro v args hs N ⟨rfl, h⟩
  split at h
  case h_2 => exact h.elim
  rename_i e0 e1 e2 rest
  obtain ⟨i, x, hx, rfl, rfl, hN1, hN2⟩ := h
  refine VSpec.at [2] rfl rfl (hV i x hx) fun h' r hp => ?_
  rcases hp with ⟨rfl, rfl⟩ | ⟨R', hs, rfl, rfl⟩
  · exact ⟨Nat.le_refl _, by simpa [putBack, setN, appE_eq] using hN1⟩
  · exact ⟨Nat.le_refl _, by simpa [putBack, setN, appE_eq] using hN2 R' hs⟩
theorem valS_iter {fv : Value} {xs : List ByteArray} {bx : Nat} {ao : Option Addr} {cap : Nat} {R : Nat → List Ent} {Stop : List Ent → Prop} (hx : xs.length ≤ 1000000) (hV : OneS fv xs R Stop) :
    Spec Try.prog 135 [⟨.blk bx, .cells [.vec 1 ao xs.length cap] 56⟩, ⟨.sl ao cap, .vecL 9 1 encS xs ByteArray.empty⟩, pk 0 (R 0)] [.raw fv, .ptr 0 bx 0] fun h' r => r = .tuple [] ∧ (h' = [⟨.blk bx, .cells [.vec 1 ao xs.length cap] 56⟩, ⟨.sl ao cap, .vecL 9 1 encS xs ByteArray.empty⟩, pk 0 (R xs.length)] ∨ ∃ R', Stop R' ∧ h' = [⟨.blk bx, .cells [.vec 1 ao xs.length cap] 56⟩, ⟨.sl ao cap, .vecL 9 1 encS xs ByteArray.empty⟩, pk 0 R']) := by
  refine Spec.up ?_
  refine Spec.of_GR 16 Try.func135 (c := bodyOf Try.f135) (by kernel_rfl) (by kernel_rfl) (Nat.le_of_ble_eq_true rfl) fun W F => ?_
  refine runR_sound (kc := true) (ss := []) (Cs := []) (fun _ _ h => h) trivial (valSY_ok hV) hmValS Ends.fn 300 _ _ ?_
  rw [vS_start]
  try refine ⟨rfl, ?_⟩
  refine GR_loopAt (ι := Nat) [] (bodyOf Try.f135) [1, 0] 16 (fun i => [(0, .raw fv), (1, .ptr 0 bx 0), (5, .vec 1 ao xs.length cap), (6, .int .i64 (xs.length : Int)), (7, .int .i64 (i : Int))]) (fun i => [⟨.blk bx, .cells [.vec 1 ao xs.length cap] 56⟩, ⟨.sl ao cap, .vecL 9 1 encS xs ByteArray.empty⟩, pk 0 (R i)]) (fun i => i ≤ xs.length) (fun i => xs.length - i) 0 (by kernel_rfl) (fun J => by kernel_rfl) (Nat.zero_le _) rfl ⟨rfl, rfl, rfl, rfl, rfl, trivial⟩ (fun w hw => hw) fun i hi u => ?_
  simp only [List.nil_append, List.cons_append]
  refine runR_sound (kc := true) (ss := []) (Cs := []) (fun _ _ h => h) trivial (valSY_ok hV) hmValS Ends.fn 900 _ _ ?_
  rw [vS_body]
  cases hlt : decide ((i : Int) < (xs.length : Int)) with
  | false =>
    simp only [decide_eq_false_iff_not] at hlt
    obtain rfl : i = xs.length := by omega
    exact ⟨_, _, fun W F w hr => hr, rfl, rfl, .inl rfl⟩
  | true =>
    simp only [decide_eq_true_eq] at hlt
    have hi' : i < xs.length := by omega
    have t2 : IntKind.wrap .i64 ((i : Int) + 1) = ((i + 1 : Nat) : Int) := IntWalk.i64_in _ (by omega)
    have hk : xs.getD i ByteArray.empty = xs[i] := by simp [List.getD, hi']
    rw [Int.toNat_natCast, hk]
    refine ⟨⟨rfl, rfl, rfl, by omega, by omega⟩, ⟨rfl, rfl, rfl, hi'⟩, ?_⟩
    repeat' first
      | exact rfl
      | (refine ⟨i, xs[i], List.getElem?_eq_getElem hi', rfl, rfl, ?_, fun R' hst => ?_⟩)
      | (refine GR_back (i + 1) (by omega) (by omega) rfl ⟨rfl, rfl, rfl, rfl, congrArg (Value.int .i64) t2, trivial⟩ (fun w hr => hr))
      | exact ⟨_, _, fun W F w hr => hr, rfl, rfl, .inr ⟨R', hst, rfl⟩⟩
      | apply And.intro
      | fail
end Go.Proofs.Ytkcmgcoppecfpaa

/- Ports: names, Listening. -/
namespace Go.Proofs.Ytkcmgcoppecfpaa
open Go Go.RowKit
open Go.Maps Go.Sort Go.Shelf
theorem hmPn : Try.prog.follows .mixedOrders = true := by kernel_rfl
theorem setN_selfA {α : Type 1} {l : Nat} {v : α} : ∀ {h : List α}, nth h l = some v → setN h l v = h := by
  induction l with
  | zero => intro h hl; cases h <;> simp [nth, setN] at hl ⊢; exact hl.symm
  | succ l ih => intro h hl; cases h <;> simp [nth, setN] at hl ⊢; exact ih hl
theorem pnT_ok : AllOk Try.prog pnT := ⟨inl_ok trivial hmPn Try.func112 (by kernel_rfl), srtS_ok rfl ⟨_, Try.func138, by kernel_rfl, _, rfl⟩ (fun w b rm nn D0 h1 h2 h3 => AnyZ.keys_gives (ρ := keysQ_ren) { keysQ with } Fence.wide _ trivial rfl (by omega) b rm nn D0 w h1 h2 h3), inl_ok trivial hmPn Try.func110 (by kernel_rfl), trivial⟩
theorem pNm_ok : CtrOk Try.prog 77 namesPC := by
  intro args hs N h
  unfold namesPC at h
  split at h
  case h_2 => exact h.elim
  rename_i l b
  split at h
  case h_2 => exact h.elim
  rename_i b' σ' p s hl
  obtain ⟨rfl, rfl, hp, hw, hN⟩ := h
  cases hp
  simp only [cast_eq] at hw hN
  refine Spec.at (hp := [pkA b' psE s]) (args' := [.ptr 0 b' 0]) (Post' := fun h' r => ∃ ao cap bx, h' = [pkA b' psE s, ⟨.sl ao cap, .vecL 9 1 encS (sortS (s.sk.map skB)) ByteArray.empty⟩, ⟨.blk bx, .cells [.vec (lenN hs) ao (sortS (s.sk.map skB)).length cap] 56⟩] ∧ r = .func (.func 135) [] [.ptr 2 bx 0]) [l] (by simp [distinct]) (by simp [pickE, hl, pkA]) ?_ rfl ?_
  · refine Spec.up ?_
    refine Spec.pre (hs' := [⟨.blk b', .cells [.map 1 s.bm, .vec 2 s.aoD s.ds.length s.capD, .int .i64 s.last] 131⟩, ⟨.blk s.bm, .mapL none encPq (s.sk.map skB)⟩, ⟨.sl s.aoD s.capD, .vecL 49 2 encDN s.ds DN.zero⟩, pk 0 (s.sk.map skE)]) (args' := [.ptr 0 b' 0]) (fun W F w hr => hr.unpkA1) rfl ?_
    refine Spec.of_G 10 Try.func77 (c := bodyOf Try.f77) (by kernel_rfl) (by kernel_rfl) (Nat.le_of_ble_eq_true rfl) fun W F => ?_
    refine G_run (kc := true) (ss := []) pnT_ok hmPn 600 ?_
    rw [pNm_run]
    have fin : ∀ (ao : Option Addr) (cap b1 bx : Nat), up (fun h' r => ∃ ao cap bx, h' = [pkA b' psE s, ⟨.sl ao cap, .vecL 9 1 encS (sortS (s.sk.map skB)) ByteArray.empty⟩, ⟨.blk bx, .cells [.vec (lenN hs) ao (sortS (s.sk.map skB)).length cap] 56⟩] ∧ r = .func (.func 135) [] [.ptr 2 bx 0]) [⟨.blk b', .cells [.map 1 s.bm, .vec 2 s.aoD s.ds.length s.capD, .int .i64 s.last] 131⟩, ⟨.blk s.bm, .mapL none encPq (s.sk.map skB)⟩, ⟨.sl s.aoD s.capD, .vecL 49 2 encDN s.ds DN.zero⟩, pk 0 (s.sk.map skE), ⟨.blk b1, .cells [.map 1 s.bm] 127⟩, ⟨.sl ao cap, .vecL 9 1 encS1 (sortS (s.sk.map skB)) ByteArray.empty⟩, ⟨.blk bx, .cells [.vec 5 ao (sortS (s.sk.map skB)).length cap] 56⟩] (.func (.func 135) [] [.ptr 6 bx 0]) := fun ao cap b1 bx => by
      refine ⟨[pkA b' psE s, ⟨.sl ao cap, .vecL 9 1 encS (sortS (s.sk.map skB)) ByteArray.empty⟩, ⟨.blk bx, .cells [.vec (lenN hs) ao (sortS (s.sk.map skB)).length cap] 56⟩], .func (.func 135) [] [.ptr 2 bx 0], fun W F w hr => ?_, rfl, ao, cap, bx, rfl, rfl⟩
      have h2 := Rep.pick (π := [0, 1, 2, 3, 5, 6]) (by decide) rfl hr
      have h3 := Rep.cellsEq (l := 5) (cs' := [.vec (lenN hs) ao (sortS (s.sk.map skB)).length cap]) rfl (by rfl) h2
      exact Rep.pkA (S := psE) (s := s) (t := [_, _]) h3
    repeat' first
      | exact rfl
      | exact HEq.rfl
      | exact hw
      | exact fin _ _ _ _
      | apply And.intro
      | (refine fun _ => ?_)
      | fail
  · rintro h' r ⟨ao, cap, bx, rfl, rfl⟩
    refine ⟨by simp [lenN], .func (.func 135) [] [.ptr (lenN hs + 1) bx 0], rfl, ?_⟩
    have e0 : setN hs l (pkA b' psE s) = hs := setN_selfA hl
    have := hN ao cap bx
    simpa [putBack, appE_eq, snoc_eq, e0] using this

theorem allPY_ok {fv : Value} {ns : List ByteArray} {R : Nat → List Ent} {Stop : List Ent → Prop} (hV : OneS fv ns R Stop) : YOk Try.prog (allPY fv ns R Stop) := by
  rintro v args hs N ⟨rfl, h⟩
  split at h
  case h_2 => exact h.elim
  rename_i e0 e1 e2 e3 rest
  obtain ⟨i, x, hx, rfl, rfl, hN1, hN2⟩ := h
  refine VSpec.at [3] rfl rfl (hV i x hx) fun h' r hp => ?_
  rcases hp with ⟨rfl, rfl⟩ | ⟨R', hs, rfl, rfl⟩
  · exact ⟨Nat.le_refl _, by simpa [putBack, setN, appE_eq] using hN1⟩
  · exact ⟨Nat.le_refl _, by simpa [putBack, setN, appE_eq] using hN2 R' hs⟩
def plR (s : PS) (b bx by_ : Nat) (fv : Value) (D l : Nat) (rc : Loop) (R : Nat → List Ent) (i : Nat) : List Ent := [pkA b psE s, ⟨.blk bx, .cells [.ptr 0 b 0] 24⟩, ⟨.blk by_, .cells [.raw fv] 60⟩, pk 0 (R i), dent D true, lp l rc .ready none]
section
variable {s : PS} {b bx by_ D l : Nat} {fv : Value} {rc : Loop} {R : Nat → List Ent} {Stop : List Ent → Prop} {T : List SV}
theorem pl_V {ns : List ByteArray} (hV : OneS fv ns R Stop) (hrt : rc.tmps = (denL T).toArray) (hrp : rc.params = rfP (codeAt (bodyOf Try.f76) [1, 1, 0])) (hra : rc.assign = rfA (codeAt (bodyOf Try.f76) [1, 1, 0])) (hrb : rc.body = rfB (codeAt (bodyOf Try.f76) [1, 1, 0]))
    (hl : ∀ v, lenN (setMany T [6] [v]) = 11 ∧ liveOk (setMany T [6] [v]) [(1, .ptr 1 bx 0), (2, .ptr 2 by_ 0), (6, v)]) :
    OneS (.func (.yield l) #[] #[]) ns (plR s b bx by_ fv D l rc R) (fun R' => ∃ R'', Stop R'' ∧ R' = [pkA b psE s, ⟨.blk bx, .cells [.ptr 0 b 0] 24⟩, ⟨.blk by_, .cells [.raw fv] 60⟩, pk 0 (R''), dent D true, lp l rc .done (some .ret)]) := by
  intro i x hxi
  refine VSpec.conv (hs' := plR s b bx by_ fv D l rc R i) (args' := [.str x]) (Post' := fun h r => (h = plR s b bx by_ fv D l rc R (i + 1) ∧ r = .bool true) ∨ ∃ R'', Stop R'' ∧ h = [pkA b psE s, ⟨.blk bx, .cells [.ptr 0 b 0] 24⟩, ⟨.blk by_, .cells [.raw fv] 60⟩, pk 0 (R''), dent D true, lp l rc .done (some .ret)] ∧ r = .bool false) (fun W F w hr => by have := Rep.unpk hr; simpa using this) rfl (.inr ⟨l, rfl, ?_⟩) ?_
  · unfold plR
    refine YSpec.up (YSpec.of_GR (p := 5) (T0 := T) (ps := [6]) rfl hrt hrp hra hrb rfl rfl fun W F => ?_)
    refine GR_live 11 [(1, .ptr 1 bx 0), (2, .ptr 2 by_ 0), (6, .str x)] [pkA b psE s, ⟨.blk bx, .cells [.ptr 0 b 0] 24⟩, ⟨.blk by_, .cells [.raw fv] 60⟩, pk 0 (R i), dent D true, lp l rc .ready none] (hl _).1 (hl _).2 (fun _ h => h) fun u => ?_
    refine runR_sound (kc := true) (ss := []) (Cs := []) (Y := noY) (K := fun _ _ => False) (fun _ _ h => h.elim) trivial (noY_ok _) hmPn Ends.assign 60 _ _ ?_
    rw [pl_asg]
    refine ⟨rfl, ?_⟩
    refine GR_live 11 [(1, .ptr 1 bx 0), (2, .ptr 2 by_ 0), (3, .str x)] [pkA b psE s, ⟨.blk bx, .cells [.ptr 0 b 0] 24⟩, ⟨.blk by_, .cells [.raw fv] 60⟩, pk 0 (R i), dent D true, lp l rc .busy none] rfl ⟨rfl, rfl, rfl, trivial⟩ (fun w hr => hr) fun u => ?_
    refine runR_sound (kc := true) (ss := []) (Cs := []) (Y := allPY fv ns R Stop) (K := fun _ _ => False) (fun _ _ h => h.elim) trivial (allPY_ok hV) hmPn (Ends.round (p := 5) (rc := rc) (j := none)) 600 _ _ ?_
    rw [pl_body]
    have c1 : ∀ (tm : List SV), roundE l 5 rc none (up fun h r => (h = [pkA b psE s, ⟨.blk bx, .cells [.ptr 0 b 0] 24⟩, ⟨.blk by_, .cells [.raw fv] 60⟩, pk 0 (R (i + 1)), dent D true, lp l rc .ready none] ∧ r = .bool true) ∨ ∃ R'', Stop R'' ∧ h = [pkA b psE s, ⟨.blk bx, .cells [.ptr 0 b 0] 24⟩, ⟨.blk by_, .cells [.raw fv] 60⟩, pk 0 (R''), dent D true, lp l rc .done (some .ret)] ∧ r = .bool false) ⟨tm, [pkA b psE s, ⟨.blk bx, .cells [.ptr 0 b 0] 24⟩, ⟨.blk by_, .cells [.raw fv] 60⟩, pk 0 (R (i + 1)), dent D true, lp l rc .busy none]⟩ := fun tm =>
      ⟨rfl, [pkA b psE s, ⟨.blk bx, .cells [.ptr 0 b 0] 24⟩, ⟨.blk by_, .cells [.raw fv] 60⟩, pk 0 (R (i + 1)), dent D true, lp l rc .ready none], .bool true, fun W F w hr => hr, rfl, .inl ⟨rfl, rfl⟩⟩
    have c2 : ∀ (tm : List SV) (R' : List Ent), Stop R' → roundX l 5 rc none (up fun h r => (h = [pkA b psE s, ⟨.blk bx, .cells [.ptr 0 b 0] 24⟩, ⟨.blk by_, .cells [.raw fv] 60⟩, pk 0 (R (i + 1)), dent D true, lp l rc .ready none] ∧ r = .bool true) ∨ ∃ R'', Stop R'' ∧ h = [pkA b psE s, ⟨.blk bx, .cells [.ptr 0 b 0] 24⟩, ⟨.blk by_, .cells [.raw fv] 60⟩, pk 0 (R''), dent D true, lp l rc .done (some .ret)] ∧ r = .bool false) .ret ⟨tm, [pkA b psE s, ⟨.blk bx, .cells [.ptr 0 b 0] 24⟩, ⟨.blk by_, .cells [.raw fv] 60⟩, pk 0 (R'), dent D true, lp l rc .busy none]⟩ := fun tm R' hs =>
      ⟨rfl, [pkA b psE s, ⟨.blk bx, .cells [.ptr 0 b 0] 24⟩, ⟨.blk by_, .cells [.raw fv] 60⟩, pk 0 (R'), dent D true, lp l rc .done (some .ret)], .bool false, fun W F w hr => hr, rfl, .inr ⟨R', hs, rfl, rfl⟩⟩
    repeat' first
      | exact rfl
      | exact HEq.rfl
      | exact c1 _
      | exact c2 _ _ (by assumption)
      | (refine ⟨i, x, hxi, rfl, rfl, ?_, fun R' hst => ?_⟩)
      | exact trivial
      | (refine ⟨rfl, ?_⟩)
      | apply And.intro
      | (refine fun _ => ?_)
      | fail
  · rintro h' r (⟨rfl, rfl⟩ | ⟨R'', hs, rfl, rfl⟩)
    · exact ⟨[pk 0 (plR s b bx by_ fv D l rc R (i + 1))], .bool true, fun W F w hr => Rep.pk (t := []) 0 (by simpa using hr), rfl, .inl ⟨rfl, rfl⟩⟩
    · exact ⟨[pk 0 [pkA b psE s, ⟨.blk bx, .cells [.ptr 0 b 0] 24⟩, ⟨.blk by_, .cells [.raw fv] 60⟩, pk 0 (R''), dent D true, lp l rc .done (some .ret)]], .bool false, fun W F w hr => Rep.pk (t := []) 0 (by simpa using hr), rfl, .inr ⟨_, ⟨R'', hs, rfl⟩, rfl, rfl⟩⟩
end
theorem allP_iter {fv : Value} {s : PS} {b bx : Nat} {R : Nat → List Ent} {Stop : List Ent → Prop} (hf : ∃ fn first cap, fv = .func fn first cap) (hw : wfS (s.sk.map skB)) (hl6 : (sortS (s.sk.map skB)).length ≤ 1000000) (hV : OneS fv (sortS (s.sk.map skB)) R Stop) :
    Spec Try.prog 76 [pkA b psE s, ⟨.blk bx, .cells [.ptr 0 b 0] 24⟩, pk 0 (R 0)] [.raw fv, .ptr 1 bx 0] fun h' r => r = .tuple [] ∧ (h' = [pkA b psE s, ⟨.blk bx, .cells [.ptr 0 b 0] 24⟩, pk 0 (R (sortS (s.sk.map skB)).length)] ∨ ∃ R', Stop R' ∧ h' = [pkA b psE s, ⟨.blk bx, .cells [.ptr 0 b 0] 24⟩, pk 0 R']) := by
  refine Spec.up ?_
  refine Spec.of_GR 11 Try.func76 (c := bodyOf Try.f76) (by kernel_rfl) (by kernel_rfl) (Nat.le_of_ble_eq_true rfl) fun W F => ?_
  refine runR_sound (kc := true) (ss := []) (Cs := [(77, namesPC)]) (fun _ _ h => h) ⟨pNm_ok, trivial⟩ (noY_ok _) hmPn Ends.fn 300 _ _ ?_
  rw [pl_start]
  obtain ⟨ff, f1, f2, rfl⟩ := hf
  refine ⟨rfl, fun by_ => ⟨rfl, rfl, rfl, rfl, HEq.rfl, hw, fun aw cw bv => ?_⟩⟩
  generalize Value.func ff f1 f2 = fv at hV ⊢
  refine GR_rangeAt [] (bodyOf Try.f76) [1, 1, 0] (f := 135) (first := []) (captured := [.ptr 5 bv 0]) (by kernel_rfl) (by kernel_rfl) (by kernel_rfl) fun D l rc hrt hrp hra hrb =>
    ⟨fun h _ => h = [pkA b psE s, ⟨.blk bx, .cells [.ptr 0 b 0] 24⟩, ⟨.blk by_, .cells [.raw fv] 60⟩, pk 0 (R (sortS (s.sk.map skB)).length), dent D true, lp l rc .ready none, ⟨.blk bv, .cells [.vec 1 aw (sortS (s.sk.map skB)).length cw] 56⟩, ⟨.sl aw cw, .vecL 9 1 encS (sortS (s.sk.map skB)) ByteArray.empty⟩] ∨ ∃ R'', Stop R'' ∧ h = [pkA b psE s, ⟨.blk bx, .cells [.ptr 0 b 0] 24⟩, ⟨.blk by_, .cells [.raw fv] 60⟩, pk 0 (R''), dent D true, lp l rc .done (some .ret), ⟨.blk bv, .cells [.vec 1 aw (sortS (s.sk.map skB)).length cw] 56⟩, ⟨.sl aw cw, .vecL 9 1 encS (sortS (s.sk.map skB)) ByteArray.empty⟩], ?_, ?_⟩
  · intro W F w hr
    have hV1 := pl_V (s := s) (b := b) (T := _) (l := l) (D := D) (bx := bx) (by_ := by_) hV hrt hrp hra hrb fun v => ⟨rfl, rfl, rfl, rfl, trivial⟩
    have h1 : Rep W F [⟨.blk bv, .cells [.vec 1 aw (sortS (s.sk.map skB)).length cw] 56⟩, ⟨.sl aw cw, .vecL 9 1 encS (sortS (s.sk.map skB)) ByteArray.empty⟩, pk 0 (plR s b bx by_ fv D l rc R 0)] w := by
      refine Rep.pkAt 0 (p := [_, _]) (t := []) ?_
      have h2 := Rep.pick (π := [5, 4, 0, 1, 3, 2, 6, 7]) (by decide) rfl hr
      exact Rep.cellsEq (l := 0) (cs' := [.vec 1 aw (sortS (s.sk.map skB)).length cw]) rfl (by rfl) h2
    refine Calls.mono (valS_iter (ao := aw) (cap := cw) (bx := bv) hl6 hV1 W F w h1) ?_
    rintro e w' ⟨h', r, ⟨rfl, hc⟩, rfl, hr'⟩
    rcases hc with rfl | ⟨R', ⟨R'', hs, rfl⟩, rfl⟩
    · have h7 := Rep.unpkAt (p := [_, _]) (t := []) hr'
      refine ⟨_, .tuple [], .inl rfl, rfl, ?_⟩
      exact Rep.pick (π := [2, 3, 4, 5, 6, 7, 0, 1]) (by decide) rfl h7
    · have h7 := Rep.unpkAt (p := [_, _]) (t := []) hr'
      refine ⟨_, .tuple [], .inr ⟨R'', hs, rfl⟩, rfl, ?_⟩
      exact Rep.pick (π := [2, 3, 4, 5, 6, 7, 0, 1]) (by decide) rfl h7
  · rintro h' v (rfl | ⟨R'', hs, rfl⟩)
    · refine ⟨5, .ready, none, by decide, rfl, ?_⟩
      dsimp only
      refine GR_live 11 [(1, .ptr 1 bx 0), (2, .ptr 2 by_ 0)] [pkA b psE s, ⟨.blk bx, .cells [.ptr 0 b 0] 24⟩, ⟨.blk by_, .cells [.raw fv] 60⟩, pk 0 (R (sortS (s.sk.map skB)).length), dent D true, lp l rc .exhausted none] rfl ⟨rfl, rfl, trivial⟩ (fun w hr => Rep.dropR (t := [_, _]) hr) fun u => ?_
      refine runR_sound (Cs := []) (Y := noY) (kc := true) (ss := []) (K := fun _ _ => False) (fun _ _ h => h.elim) trivial (noY_ok _) hmPn (Ends.fnM D 4) 900 _ _ ?_
      rw [pl_end]
      exact ⟨rfl, _, .tuple [], fun W F w hr => Rep.pick (π := [0, 1, 3]) (by decide) rfl hr, rfl, rfl, .inl rfl⟩
    · refine ⟨5, .done, some .ret, by decide, rfl, ?_⟩
      dsimp only
      refine GR_live 11 [(1, .ptr 1 bx 0), (2, .ptr 2 by_ 0)] [pkA b psE s, ⟨.blk bx, .cells [.ptr 0 b 0] 24⟩, ⟨.blk by_, .cells [.raw fv] 60⟩, pk 0 (R''), dent D true, lp l rc .exhausted (some .ret)] rfl ⟨rfl, rfl, trivial⟩ (fun w hr => Rep.dropR (t := [_, _]) hr) fun u => ?_
      refine runR_sound (Cs := []) (Y := noY) (kc := true) (ss := []) (K := fun _ _ => False) (fun _ _ h => h.elim) trivial (noY_ok _) hmPn (Ends.fnM D 4) 900 _ _ ?_
      rw [pl_ret]
      exact ⟨rfl, _, .tuple [], fun W F w hr => Rep.pick (π := [0, 1, 3]) (by decide) rfl hr, rfl, rfl, .inr ⟨R'', hs, rfl⟩⟩
end Go.Proofs.Ytkcmgcoppecfpaa

namespace Go.Proofs.Ytkcmgcoppecfpaa
open Go Go.RowKit

theorem qco_start (K : List Frm → Sy → Prop) (N : List Ent → SV → Prop) (b : Nat) (aoL : Option Addr) (capL : Nat) (L : List RPt) (nx : Int) (aoD : Option Addr) (capD : Nat) (ds : List DN) (rest : List Ent) (n text : ByteArray) : (run Try.prog [(70, qatO)] true [4] K (retP Try.prog Try.f17.results.toList N) 3000 [.code (bodyOf Try.f17)] ⟨padTo 88 [.ptr 0 b 0, .str n, .str text], [⟨.blk b, .cells [.vec 1 aoL (L).length capL, .int .i64 nx, .vec 2 aoD ds.length capD] 30⟩, ⟨.sl aoL capL, .vecL 62 2 encRpt (L) zP⟩, ⟨.sl aoD capD, .vecL 49 2 encDN ds DN.zero⟩, pk 0 rest]⟩) = (
true = true ∧
 (b = b ∧ (30 : TypeId) = (30 : TypeId) ∧ false = false) ∧
  ∃ (L_1 : List RPt),
   some (Ent.mk (Loc.sl aoL capL) (SObj.vecL (62 : TypeId) 2 encRpt L (RPt.mk (ByteArray.mk #[]) (@none Addr) 0 []))) =
    some (Ent.mk (Loc.sl aoL capL) (SObj.vecL (62 : TypeId) 2 encRpt L_1 (RPt.mk (ByteArray.mk #[]) (@none Addr) 0 []))) ∧
    (List.length L = List.length L_1 ∧ List.length L_1 ≤ 1000) ∧
     match !nHas RPt.name (RPt.mk (ByteArray.mk #[]) (@none Addr) 0 []) L_1 n with
     | true =>
      N
       [Ent.mk (Loc.blk b) (SObj.cells [SV.vec 1 aoL (List.length L) capL, SV.int IntKind.i64 nx, SV.vec 2 aoD (List.length ds) capD] (30 : TypeId)),
        Ent.mk (Loc.sl aoL capL) (SObj.vecL (62 : TypeId) 2 encRpt L (RPt.mk (ByteArray.mk #[]) (@none Addr) 0 [])),
        Ent.mk (Loc.sl aoD capD) (SObj.vecL (49 : TypeId) 2 encDN ds (DN.mk (0 : Int) (ByteArray.mk #[]))), pk 0 rest]
       (SV.tuple [SV.int IntKind.i64 (0 : Int), SV.int IntKind.i64 (100 : Int)])
     | false =>
      match decide ((↑(ByteArray.size text) : Int) > (200 : Int)) with
      | true =>
       N
        [Ent.mk (Loc.blk b) (SObj.cells [SV.vec 1 aoL (List.length L) capL, SV.int IntKind.i64 nx, SV.vec 2 aoD (List.length ds) capD] (30 : TypeId)),
         Ent.mk (Loc.sl aoL capL) (SObj.vecL (62 : TypeId) 2 encRpt L (RPt.mk (ByteArray.mk #[]) (@none Addr) 0 [])),
         Ent.mk (Loc.sl aoD capD) (SObj.vecL (49 : TypeId) 2 encDN ds (DN.mk (0 : Int) (ByteArray.mk #[]))), pk 0 rest]
        (SV.tuple [SV.int IntKind.i64 (0 : Int), SV.int IntKind.i64 (100 : Int)])
      | false =>
       K (frmR [] (bodyOf Try.f17) 4)
        (Sy.mk (SV.ptr 0 b 0 :: (SV.str n :: (SV.str text :: (rawE (SV.int IntKind.i64 (0 : Int) :: (SV.int IntKind.i64 (0 : Int) :: (SV.int IntKind.i64 (↑(nAt RPt.name L_1 n) : Int) :: (SV.bool (nHas RPt.name (RPt.mk (ByteArray.mk #[]) (@none Addr) 0 []) L_1 n) :: (SV.tuple [SV.int IntKind.i64 (↑(nAt RPt.name L_1 n) : Int), SV.bool (nHas RPt.name (RPt.mk (ByteArray.mk #[]) (@none Addr) 0 []) L_1 n)] :: (SV.ptr 0 b 0 :: (SV.str n :: (SV.tuple [SV.int IntKind.i64 (↑(nAt RPt.name L_1 n) : Int), SV.bool (nHas RPt.name (RPt.mk (ByteArray.mk #[]) (@none Addr) 0 []) L_1 n)] :: (SV.int IntKind.i64 (↑(nAt RPt.name L_1 n) : Int) :: (SV.bool (nHas RPt.name (RPt.mk (ByteArray.mk #[]) (@none Addr) 0 []) L_1 n) :: (SV.bool false :: (SV.bool (nHas RPt.name (RPt.mk (ByteArray.mk #[]) (@none Addr) 0 []) L_1 n) :: ((SV.bool !nHas RPt.name (RPt.mk (ByteArray.mk #[]) (@none Addr) 0 []) L_1 n) :: (SV.bool false :: (SV.str text :: (SV.int IntKind.i64 (↑(ByteArray.size text) : Int) :: (SV.bool (decide ((↑(ByteArray.size text) : Int) > (200 : Int))) :: (SV.bool (decide ((↑(ByteArray.size text) : Int) > (200 : Int))) :: (rawE [] 64))))))))))))))))))) 3))))
         [Ent.mk (Loc.blk b) (SObj.cells [SV.vec 1 aoL (List.length L) capL, SV.int IntKind.i64 nx, SV.vec 2 aoD (List.length ds) capD] (30 : TypeId)),
          Ent.mk (Loc.sl aoL capL) (SObj.vecL (62 : TypeId) 2 encRpt L (RPt.mk (ByteArray.mk #[]) (@none Addr) 0 [])),
          Ent.mk (Loc.sl aoD capD) (SObj.vecL (49 : TypeId) 2 encDN ds (DN.mk (0 : Int) (ByteArray.mk #[]))), pk 0 rest])) := by kernel_rfl


theorem qco_4 (K : List Frm → Sy → Prop) (N : List Ent → SV → Prop) (b : Nat) (aoL : Option Addr) (capL : Nat) (L : List RPt) (nx : Int) (aoD : Option Addr) (capD : Nat) (ds : List DN) (rest : List Ent) (g : RPt) (text : ByteArray) (i : Nat) (u : Nat → Value) : (run Try.prog [] true [7] K (retP Try.prog Try.f17.results.toList N) 900 (frmR [] (bodyOf Try.f17) 4) ⟨mkT u 88 0 [(0, .ptr 0 b 0), (2, .str text), (8, .int .i64 (i : Int))], [⟨.blk b, .cells [.vec 1 aoL (L).length capL, .int .i64 nx, .vec 2 aoD ds.length capD] 30⟩, ⟨.sl aoL capL, .vecL 62 2 encRpt (L) zP⟩, ⟨.sl aoD capD, .vecL 49 2 encDN ds DN.zero⟩, pk 0 rest, ⟨.sl g.ao g.cap, .vecL 41 2 encCN g.cs CN.zero⟩]⟩) = (
b = b ∧
 (aoL = aoL ∧ capL = capL ∧ List.length L = List.length L ∧ (0 : Int) ≤ (↑i : Int) ∧ (↑i : Int) < (↑(List.length L) : Int)) ∧
  (Addr.blkD aoL = Addr.blkD aoL ∧ Addr.offD aoL = Addr.offD aoL ∧ 2 = 2 ∧ Int.toNat (↑i : Int) < List.length L) ∧
   match decide ((↑(List.length (List.getD L (Int.toNat (↑i : Int)) (RPt.mk (ByteArray.mk #[]) (@none Addr) 0 [])).4) : Int) ≥ (16 : Int)) with
   | true =>
    N
     [Ent.mk (Loc.blk b) (SObj.cells [SV.vec 1 aoL (List.length L) capL, SV.int IntKind.i64 nx, SV.vec 2 aoD (List.length ds) capD] (30 : TypeId)),
      Ent.mk (Loc.sl aoL capL) (SObj.vecL (62 : TypeId) 2 encRpt L (RPt.mk (ByteArray.mk #[]) (@none Addr) 0 [])),
      Ent.mk (Loc.sl aoD capD) (SObj.vecL (49 : TypeId) 2 encDN ds (DN.mk (0 : Int) (ByteArray.mk #[]))), pk 0 rest,
      Ent.mk (Loc.sl g.ao g.3) (SObj.vecL (41 : TypeId) 2 encCN g.4 (CN.mk (0 : Int) (ByteArray.mk #[])))]
     (SV.tuple [SV.int IntKind.i64 (0 : Int), SV.int IntKind.i64 (102 : Int)])
   | false =>
    b = b ∧
     (b = b ∧ true = true ∧ 1 = 1 ∧ 2 ≤ 3) ∧
      K (frmR [] (bodyOf Try.f17) 7)
       (Sy.mk (SV.ptr 0 b 0 :: (SV.raw (u 1) :: (SV.str text :: (rawR u 3 (SV.int IntKind.i64 (↑i : Int) :: (rawR u 9 (SV.bool false :: (SV.ptr 0 b 0 :: (SV.ptr 0 b 0 :: (SV.ptr 0 b 0 :: (SV.vec 1 aoL (List.length L) capL :: (SV.int IntKind.i64 (↑i : Int) :: (SV.eptr 1 (Addr.blkD aoL) (Addr.offD aoL) 2 (Int.toNat (↑i : Int)) 0 :: (SV.eptr 1 (Addr.blkD aoL) (Addr.offD aoL) 2 (Int.toNat (↑i : Int)) 1 :: (SV.vec 4 (List.getD L (Int.toNat (↑i : Int)) (RPt.mk (ByteArray.mk #[]) (@none Addr) 0 [])).ao (List.length (List.getD L (Int.toNat (↑i : Int)) (RPt.mk (ByteArray.mk #[]) (@none Addr) 0 [])).4) (List.getD L (Int.toNat (↑i : Int)) (RPt.mk (ByteArray.mk #[]) (@none Addr) 0 [])).3 :: (SV.int IntKind.i64 (↑(List.length (List.getD L (Int.toNat (↑i : Int)) (RPt.mk (ByteArray.mk #[]) (@none Addr) 0 [])).4) : Int) :: (SV.bool (decide ((↑(List.length (List.getD L (Int.toNat (↑i : Int)) (RPt.mk (ByteArray.mk #[]) (@none Addr) 0 [])).4) : Int) ≥ (16 : Int))) :: (SV.ptr 0 b 0 :: (SV.ptr 0 b 0 :: (SV.ptr 0 b 1 :: (SV.int IntKind.i64 nx :: (SV.int IntKind.i64 (IntKind.wrap IntKind.i64 (nx + (1 : Int))) :: (SV.ptr 0 b 0 :: (SV.ptr 0 b 1 :: (rawR u 42 [] 46))))))))))))))))))) 15)) 5))))
        [Ent.mk (Loc.blk b)
         (SObj.cells [SV.vec 1 aoL (List.length L) capL, SV.int IntKind.i64 (IntKind.wrap IntKind.i64 (nx + (1 : Int))), SV.vec 2 aoD (List.length ds) capD] (30 : TypeId)),
         Ent.mk (Loc.sl aoL capL) (SObj.vecL (62 : TypeId) 2 encRpt L (RPt.mk (ByteArray.mk #[]) (@none Addr) 0 [])),
         Ent.mk (Loc.sl aoD capD) (SObj.vecL (49 : TypeId) 2 encDN ds (DN.mk (0 : Int) (ByteArray.mk #[]))), pk 0 rest,
         Ent.mk (Loc.sl g.ao g.3) (SObj.vecL (41 : TypeId) 2 encCN g.4 (CN.mk (0 : Int) (ByteArray.mk #[])))])) := by kernel_rfl


theorem qac_start (K : List Frm → Sy → Prop) (N : List Ent → SV → Prop) (b : Nat) (aoL : Option Addr) (capL : Nat) (L : List RPt) (nx : Int) (aoD : Option Addr) (capD : Nat) (ds : List DN) (rest : List Ent) (g : RPt) (n : ByteArray) : (run Try.prog [(70, qatO)] true [4] K (retP Try.prog Try.f19.results.toList N) 3000 [.code (bodyOf Try.f19)] ⟨padTo 57 [.ptr 0 b 0, .str n], [⟨.blk b, .cells [.vec 1 aoL (L).length capL, .int .i64 nx, .vec 2 aoD ds.length capD] 30⟩, ⟨.sl aoL capL, .vecL 62 2 encRpt (L) zP⟩, ⟨.sl aoD capD, .vecL 49 2 encDN ds DN.zero⟩, pk 0 rest, ⟨.sl g.ao g.cap, .vecL 41 2 encCN g.cs CN.zero⟩]⟩) = (
∀ (b_1 : Nat),
 true = true ∧
  (b = b ∧ (30 : TypeId) = (30 : TypeId) ∧ false = false) ∧
   ∃ (L_1 : List RPt),
    some (Ent.mk (Loc.sl aoL capL) (SObj.vecL (62 : TypeId) 2 encRpt L (RPt.mk (ByteArray.mk #[]) (@none Addr) 0 []))) =
     some (Ent.mk (Loc.sl aoL capL) (SObj.vecL (62 : TypeId) 2 encRpt L_1 (RPt.mk (ByteArray.mk #[]) (@none Addr) 0 []))) ∧
     (List.length L = List.length L_1 ∧ List.length L_1 ≤ 1000) ∧
      match !nHas RPt.name (RPt.mk (ByteArray.mk #[]) (@none Addr) 0 []) L_1 n with
      | true =>
       (true = true ∧ true = true) ∧
        (b_1 = b_1 ∧ true = true ∧ 2 = 2 ∧ 2 ≤ 2) ∧
         (b_1 = b_1 ∧ 2 = 2) ∧
          N
           [Ent.mk (Loc.blk b) (SObj.cells [SV.vec 1 aoL (List.length L) capL, SV.int IntKind.i64 nx, SV.vec 2 aoD (List.length ds) capD] (30 : TypeId)),
            Ent.mk (Loc.sl aoL capL) (SObj.vecL (62 : TypeId) 2 encRpt L (RPt.mk (ByteArray.mk #[]) (@none Addr) 0 [])),
            Ent.mk (Loc.sl aoD capD) (SObj.vecL (49 : TypeId) 2 encDN ds (DN.mk (0 : Int) (ByteArray.mk #[]))), pk 0 rest,
            Ent.mk (Loc.sl g.ao g.3) (SObj.vecL (41 : TypeId) 2 encCN g.4 (CN.mk (0 : Int) (ByteArray.mk #[]))),
            Ent.mk (Loc.blk b_1) (SObj.cells [SV.int IntKind.i64 (0 : Int), SV.str (ByteArray.mk #[])] 41)]
           (SV.tuple [SV.agg [SV.int IntKind.i64 (0 : Int), SV.str (ByteArray.mk #[])], SV.int IntKind.i64 (100 : Int)])
      | false =>
       b = b ∧
        (aoL = aoL ∧ capL = capL ∧ List.length L = List.length L ∧ (0 : Int) ≤ (↑(nAt RPt.name L_1 n) : Int) ∧ (↑(nAt RPt.name L_1 n) : Int) < (↑(List.length L) : Int)) ∧
         (Addr.blkD aoL = Addr.blkD aoL ∧ Addr.offD aoL = Addr.offD aoL ∧ 2 = 2 ∧ Int.toNat (↑(nAt RPt.name L_1 n) : Int) < List.length L) ∧
          match (↑(List.length (List.getD L (Int.toNat (↑(nAt RPt.name L_1 n) : Int)) (RPt.mk (ByteArray.mk #[]) (@none Addr) 0 [])).4) : Int) == (0 : Int) with
          | true =>
           (true = true ∧ true = true) ∧
            (b_1 = b_1 ∧ true = true ∧ 2 = 2 ∧ 2 ≤ 2) ∧
             (b_1 = b_1 ∧ 2 = 2) ∧
              N
               [Ent.mk (Loc.blk b) (SObj.cells [SV.vec 1 aoL (List.length L) capL, SV.int IntKind.i64 nx, SV.vec 2 aoD (List.length ds) capD] (30 : TypeId)),
                Ent.mk (Loc.sl aoL capL) (SObj.vecL (62 : TypeId) 2 encRpt L (RPt.mk (ByteArray.mk #[]) (@none Addr) 0 [])),
                Ent.mk (Loc.sl aoD capD) (SObj.vecL (49 : TypeId) 2 encDN ds (DN.mk (0 : Int) (ByteArray.mk #[]))), pk 0 rest,
                Ent.mk (Loc.sl g.ao g.3) (SObj.vecL (41 : TypeId) 2 encCN g.4 (CN.mk (0 : Int) (ByteArray.mk #[]))),
                Ent.mk (Loc.blk b_1) (SObj.cells [SV.int IntKind.i64 (0 : Int), SV.str (ByteArray.mk #[])] 41)]
               (SV.tuple [SV.agg [SV.int IntKind.i64 (0 : Int), SV.str (ByteArray.mk #[])], SV.int IntKind.i64 (100 : Int)])
          | false =>
           K (frmR [] (bodyOf Try.f19) 4)
            (Sy.mk (SV.ptr 0 b 0 :: (SV.str n :: (SV.raw (Value.tuple #[]) :: (SV.raw (Value.tuple #[]) :: (SV.ptr 5 b_1 0 :: (SV.int IntKind.i64 (0 : Int) :: (SV.int IntKind.i64 (↑(nAt RPt.name L_1 n) : Int) :: (SV.bool (nHas RPt.name (RPt.mk (ByteArray.mk #[]) (@none Addr) 0 []) L_1 n) :: (SV.raw (Value.tuple #[]) :: (SV.tuple [SV.int IntKind.i64 (↑(nAt RPt.name L_1 n) : Int), SV.bool (nHas RPt.name (RPt.mk (ByteArray.mk #[]) (@none Addr) 0 []) L_1 n)] :: (SV.ptr 0 b 0 :: (SV.str n :: (SV.tuple [SV.int IntKind.i64 (↑(nAt RPt.name L_1 n) : Int), SV.bool (nHas RPt.name (RPt.mk (ByteArray.mk #[]) (@none Addr) 0 []) L_1 n)] :: (SV.int IntKind.i64 (↑(nAt RPt.name L_1 n) : Int) :: (SV.bool (nHas RPt.name (RPt.mk (ByteArray.mk #[]) (@none Addr) 0 []) L_1 n) :: (SV.bool (nHas RPt.name (RPt.mk (ByteArray.mk #[]) (@none Addr) 0 []) L_1 n) :: ((SV.bool !nHas RPt.name (RPt.mk (ByteArray.mk #[]) (@none Addr) 0 []) L_1 n) :: (SV.bool false :: (SV.ptr 0 b 0 :: (SV.ptr 0 b 0 :: (SV.ptr 0 b 0 :: (SV.vec 1 aoL (List.length L) capL :: (SV.int IntKind.i64 (↑(nAt RPt.name L_1 n) : Int) :: (SV.eptr 1 (Addr.blkD aoL) (Addr.offD aoL) 2 (Int.toNat (↑(nAt RPt.name L_1 n) : Int)) 0 :: (SV.eptr 1 (Addr.blkD aoL) (Addr.offD aoL) 2 (Int.toNat (↑(nAt RPt.name L_1 n) : Int)) 1 :: (SV.vec 4 (List.getD L (Int.toNat (↑(nAt RPt.name L_1 n) : Int)) (RPt.mk (ByteArray.mk #[]) (@none Addr) 0 [])).ao (List.length (List.getD L (Int.toNat (↑(nAt RPt.name L_1 n) : Int)) (RPt.mk (ByteArray.mk #[]) (@none Addr) 0 [])).4) (List.getD L (Int.toNat (↑(nAt RPt.name L_1 n) : Int)) (RPt.mk (ByteArray.mk #[]) (@none Addr) 0 [])).3 :: (SV.int IntKind.i64 (↑(List.length (List.getD L (Int.toNat (↑(nAt RPt.name L_1 n) : Int)) (RPt.mk (ByteArray.mk #[]) (@none Addr) 0 [])).4) : Int) :: ((SV.bool ((↑(List.length (List.getD L (Int.toNat (↑(nAt RPt.name L_1 n) : Int)) (RPt.mk (ByteArray.mk #[]) (@none Addr) 0 [])).4) : Int) == (0 : Int))) :: (SV.bool false :: (rawE [] 28))))))))))))))))))))))))))))))
             [Ent.mk (Loc.blk b) (SObj.cells [SV.vec 1 aoL (List.length L) capL, SV.int IntKind.i64 nx, SV.vec 2 aoD (List.length ds) capD] (30 : TypeId)),
              Ent.mk (Loc.sl aoL capL) (SObj.vecL (62 : TypeId) 2 encRpt L (RPt.mk (ByteArray.mk #[]) (@none Addr) 0 [])),
              Ent.mk (Loc.sl aoD capD) (SObj.vecL (49 : TypeId) 2 encDN ds (DN.mk (0 : Int) (ByteArray.mk #[]))), pk 0 rest,
              Ent.mk (Loc.sl g.ao g.3) (SObj.vecL (41 : TypeId) 2 encCN g.4 (CN.mk (0 : Int) (ByteArray.mk #[]))),
              Ent.mk (Loc.blk b_1) (SObj.cells [SV.int IntKind.i64 (0 : Int), SV.str (ByteArray.mk #[])] 41)])) := by kernel_rfl
end Go.Proofs.Ytkcmgcoppecfpaa

namespace Go.Proofs.Ytkcmgcoppecfpaa
open Go Go.RowKit

theorem qco_7 (K : List Frm → Sy → Prop) (N : List Ent → SV → Prop) (b : Nat) (aoL : Option Addr) (capL : Nat) (L : List RPt) (nx : Int) (aoD : Option Addr) (capD : Nat) (ds : List DN) (rest : List Ent) (g : RPt) (text : ByteArray) (i : Nat) (u : Nat → Value) : (run Try.prog [] true [200004] K (retP Try.prog Try.f17.results.toList N) 1500 (frmR [] (bodyOf Try.f17) 7) ⟨mkT u 88 0 [(0, .ptr 0 b 0), (2, .str text), (8, .int .i64 (i : Int))], [⟨.blk b, .cells [.vec 1 aoL (L).length capL, .int .i64 nx, .vec 2 aoD ds.length capD] 30⟩, ⟨.sl aoL capL, .vecL 62 2 encRpt (L) zP⟩, ⟨.sl aoD capD, .vecL 49 2 encDN ds DN.zero⟩, pk 0 rest, ⟨.sl g.ao g.cap, .vecL 41 2 encCN g.cs CN.zero⟩]⟩) = (
b = b ∧
 b = b ∧
  (aoL = aoL ∧ capL = capL ∧ List.length L = List.length L ∧ (0 : Int) ≤ (↑i : Int) ∧ (↑i : Int) < (↑(List.length L) : Int)) ∧
   (Addr.blkD aoL = Addr.blkD aoL ∧ Addr.offD aoL = Addr.offD aoL ∧ 2 = 2 ∧ Int.toNat (↑i : Int) < List.length L) ∧
    b = b ∧
     (aoL = aoL ∧ capL = capL ∧ List.length L = List.length L ∧ (0 : Int) ≤ (↑i : Int) ∧ (↑i : Int) < (↑(List.length L) : Int)) ∧
      (Addr.blkD aoL = Addr.blkD aoL ∧ Addr.offD aoL = Addr.offD aoL ∧ 2 = 2 ∧ Int.toNat (↑i : Int) < List.length L) ∧
       b = b ∧
        (aoL = aoL ∧ capL = capL ∧ List.length L = List.length L ∧ (0 : Int) ≤ (↑i : Int) ∧ (↑i : Int) < (↑(List.length L) : Int)) ∧
         (Addr.blkD aoL = Addr.blkD aoL ∧ Addr.offD aoL = Addr.offD aoL ∧ 2 = 2 ∧ Int.toNat (↑i : Int) < List.length L) ∧
          b = b ∧
           (true = true ∧ true = true) ∧
            ((g.ao = (List.getD L (Int.toNat (↑i : Int)) (RPt.mk (ByteArray.mk #[]) (@none Addr) 0 [])).ao ∧
             g.3 = (List.getD L (Int.toNat (↑i : Int)) (RPt.mk (ByteArray.mk #[]) (@none Addr) 0 [])).3 ∧
              List.length (List.getD L (Int.toNat (↑i : Int)) (RPt.mk (ByteArray.mk #[]) (@none Addr) 0 [])).4 = List.length g.4 ∧
               (↑(List.length (List.getD L (Int.toNat (↑i : Int)) (RPt.mk (ByteArray.mk #[]) (@none Addr) 0 [])).4) : Int) =
                (↑(List.length (List.getD L (Int.toNat (↑i : Int)) (RPt.mk (ByteArray.mk #[]) (@none Addr) 0 [])).4) : Int) ∧
                (↑(List.length (List.getD L (Int.toNat (↑i : Int)) (RPt.mk (ByteArray.mk #[]) (@none Addr) 0 [])).4) : Int) =
                 (↑(List.length (List.getD L (Int.toNat (↑i : Int)) (RPt.mk (ByteArray.mk #[]) (@none Addr) 0 [])).4) : Int)) ∧
             (Ent.mk (Loc.blk b) (SObj.cells [SV.vec 1 aoL (List.length L) capL, SV.int IntKind.i64 nx, SV.vec 2 aoD (List.length ds) capD] (30 : TypeId)) =
              Ent.mk (Loc.blk b) (SObj.cells [SV.vec 1 aoL (List.length L) capL, SV.int IntKind.i64 nx, SV.vec 2 aoD (List.length ds) capD] (30 : TypeId)) ∧
              Ent.mk (Loc.sl aoL capL) (SObj.vecL (62 : TypeId) 2 encRpt L (RPt.mk (ByteArray.mk #[]) (@none Addr) 0 [])) =
               Ent.mk (Loc.sl aoL capL) (SObj.vecL (62 : TypeId) 2 encRpt L (RPt.mk (ByteArray.mk #[]) (@none Addr) 0 [])) ∧
               Ent.mk (Loc.sl aoD capD) (SObj.vecL (49 : TypeId) 2 encDN ds (DN.mk (0 : Int) (ByteArray.mk #[]))) =
                Ent.mk (Loc.sl aoD capD) (SObj.vecL (49 : TypeId) 2 encDN ds (DN.mk (0 : Int) (ByteArray.mk #[]))) ∧
                pk 0 rest = pk 0 rest ∧ True) ∧
              (true = true ∧ 2 = 2 ∧ 0 < 2 ∧ 2 ≤ 16777216) ∧
               ∀ (b_1 : Nat),
                (Ent.mk (Loc.blk b) (SObj.cells [SV.vec 1 aoL (List.length L) capL, SV.int IntKind.i64 nx, SV.vec 2 aoD (List.length ds) capD] (30 : TypeId)) =
                 Ent.mk (Loc.blk b) (SObj.cells [SV.vec 1 aoL (List.length L) capL, SV.int IntKind.i64 nx, SV.vec 2 aoD (List.length ds) capD] (30 : TypeId)) ∧
                 Ent.mk (Loc.sl aoL capL) (SObj.vecL (62 : TypeId) 2 encRpt L (RPt.mk (ByteArray.mk #[]) (@none Addr) 0 [])) =
                  Ent.mk (Loc.sl aoL capL) (SObj.vecL (62 : TypeId) 2 encRpt L (RPt.mk (ByteArray.mk #[]) (@none Addr) 0 [])) ∧
                  Ent.mk (Loc.sl aoD capD) (SObj.vecL (49 : TypeId) 2 encDN ds (DN.mk (0 : Int) (ByteArray.mk #[]))) =
                   Ent.mk (Loc.sl aoD capD) (SObj.vecL (49 : TypeId) 2 encDN ds (DN.mk (0 : Int) (ByteArray.mk #[]))) ∧
                   pk 0 rest = pk 0 rest ∧ True) ∧
                 ((List.getD L (Int.toNat (↑i : Int)) (RPt.mk (ByteArray.mk #[]) (@none Addr) 0 [])).ao =
                  (List.getD L (Int.toNat (↑i : Int)) (RPt.mk (ByteArray.mk #[]) (@none Addr) 0 [])).ao ∧
                  List.length (List.getD L (Int.toNat (↑i : Int)) (RPt.mk (ByteArray.mk #[]) (@none Addr) 0 [])).4 =
                   List.length (List.getD L (Int.toNat (↑i : Int)) (RPt.mk (ByteArray.mk #[]) (@none Addr) 0 [])).4 ∧
                   List.length (List.getD L (Int.toNat (↑i : Int)) (RPt.mk (ByteArray.mk #[]) (@none Addr) 0 [])).4 = List.length g.4 ∧
                    some (Addr.mk b_1 0 (@none Nat)) = some (Addr.mk b_1 0 (@none Nat)) ∧
                     (41 : TypeId) = 41 ∧
                      2 = 2 ∧
                       2 = 2 ∧
                        0 < 1 ∧
                         true = true ∧
                          (List.length (List.getD L (Int.toNat (↑i : Int)) (RPt.mk (ByteArray.mk #[]) (@none Addr) 0 [])).4 + 1) * 24 ≤
                           140737488355328 ∧
                           List.length (List.getD L (Int.toNat (↑i : Int)) (RPt.mk (ByteArray.mk #[]) (@none Addr) 0 [])).4 + 1 ≤
                            9223372036854775807) ∧
                  ∃ (es : List CN),
                   List.length es = 1 ∧
                    denL (List.flatMap encCN es) = denL [SV.int IntKind.i64 nx, SV.str text] ∧
                     ∀ (ao2 : Option Addr) (cap2 : Nat),
                      List.length (List.getD L (Int.toNat (↑i : Int)) (RPt.mk (ByteArray.mk #[]) (@none Addr) 0 [])).4 + 1 ≤ cap2 →
                       (Ent.mk (Loc.blk b)
                        (SObj.cells [SV.vec 1 aoL (List.length L) capL, SV.int IntKind.i64 nx, SV.vec 2 aoD (List.length ds) capD] (30 : TypeId)) =
                        Ent.mk (Loc.blk b)
                         (SObj.cells [SV.vec 1 aoL (List.length L) capL, SV.int IntKind.i64 nx, SV.vec 2 aoD (List.length ds) capD] (30 : TypeId)) ∧
                        Ent.mk (Loc.sl aoL capL) (SObj.vecL (62 : TypeId) 2 encRpt L (RPt.mk (ByteArray.mk #[]) (@none Addr) 0 [])) =
                         Ent.mk (Loc.sl aoL capL) (SObj.vecL (62 : TypeId) 2 encRpt L (RPt.mk (ByteArray.mk #[]) (@none Addr) 0 [])) ∧
                         Ent.mk (Loc.sl aoD capD) (SObj.vecL (49 : TypeId) 2 encDN ds (DN.mk (0 : Int) (ByteArray.mk #[]))) =
                          Ent.mk (Loc.sl aoD capD) (SObj.vecL (49 : TypeId) 2 encDN ds (DN.mk (0 : Int) (ByteArray.mk #[]))) ∧
                          pk 0 rest = pk 0 rest ∧ True) ∧
                        (aoL = aoL ∧ capL = capL ∧ List.length L = List.length L ∧ (0 : Int) ≤ (↑i : Int) ∧ (↑i : Int) < (↑(List.length L) : Int)) ∧
                         (Addr.blkD aoL = Addr.blkD aoL ∧
                          Addr.offD aoL = Addr.offD aoL ∧
                           2 = 2 ∧ Int.toNat (↑i : Int) < List.length L ∧ true = true ∧ 1 = 1 ∧ 2 ≤ 2) ∧
                          ∃ (e : RPt),
                           denL [SV.str e.1, SV.vec 4 e.ao (List.length e.4) e.3] =
                            denL
                             [SV.str (List.getD L (Int.toNat (↑i : Int)) (RPt.mk (ByteArray.mk #[]) (@none Addr) 0 [])).1,
                              SV.vec 4 ao2
                               (List.length (List.getD L (Int.toNat (↑i : Int)) (RPt.mk (ByteArray.mk #[]) (@none Addr) 0 [])).4 + 1) cap2] ∧
                            b = b ∧
                             N
                              [Ent.mk (Loc.blk b)
                               (SObj.cells [SV.vec 1 aoL (List.length L) capL, SV.int IntKind.i64 nx, SV.vec 2 aoD (List.length ds) capD]
                                (30 : TypeId)),
                               Ent.mk (Loc.sl aoL capL)
                                (SObj.vecL (62 : TypeId) 2 encRpt (List.set L (Int.toNat (↑i : Int)) e)
                                 (RPt.mk (ByteArray.mk #[]) (@none Addr) 0 [])),
                               Ent.mk (Loc.sl aoD capD) (SObj.vecL (49 : TypeId) 2 encDN ds (DN.mk (0 : Int) (ByteArray.mk #[]))), pk 0 rest,
                               Ent.mk (Loc.sl ao2 cap2) (SObj.vecL (41 : TypeId) 2 encCN (g.4 ++ es) (CN.mk (0 : Int) (ByteArray.mk #[]))),
                               Ent.mk (Loc.blk b_1) (SObj.cells [SV.int IntKind.i64 nx, SV.str text] 41)]
                              (SV.tuple [SV.int IntKind.i64 nx, SV.int IntKind.i64 (0 : Int)])) ∧
             (true = true ∧ 2 = 2 ∧ 0 < 2 ∧ 2 ≤ 16777216) ∧
              ∀ (b_1 : Nat),
               (Ent.mk (Loc.blk b) (SObj.cells [SV.vec 1 aoL (List.length L) capL, SV.int IntKind.i64 nx, SV.vec 2 aoD (List.length ds) capD] (30 : TypeId)) =
                Ent.mk (Loc.blk b) (SObj.cells [SV.vec 1 aoL (List.length L) capL, SV.int IntKind.i64 nx, SV.vec 2 aoD (List.length ds) capD] (30 : TypeId)) ∧
                Ent.mk (Loc.sl aoL capL) (SObj.vecL (62 : TypeId) 2 encRpt L (RPt.mk (ByteArray.mk #[]) (@none Addr) 0 [])) =
                 Ent.mk (Loc.sl aoL capL) (SObj.vecL (62 : TypeId) 2 encRpt L (RPt.mk (ByteArray.mk #[]) (@none Addr) 0 [])) ∧
                 Ent.mk (Loc.sl aoD capD) (SObj.vecL (49 : TypeId) 2 encDN ds (DN.mk (0 : Int) (ByteArray.mk #[]))) =
                  Ent.mk (Loc.sl aoD capD) (SObj.vecL (49 : TypeId) 2 encDN ds (DN.mk (0 : Int) (ByteArray.mk #[]))) ∧
                  pk 0 rest = pk 0 rest ∧ True) ∧
                (g.ao = (List.getD L (Int.toNat (↑i : Int)) (RPt.mk (ByteArray.mk #[]) (@none Addr) 0 [])).ao ∧
                 g.3 = (List.getD L (Int.toNat (↑i : Int)) (RPt.mk (ByteArray.mk #[]) (@none Addr) 0 [])).3 ∧
                  List.length (List.getD L (Int.toNat (↑i : Int)) (RPt.mk (ByteArray.mk #[]) (@none Addr) 0 [])).4 = List.length g.4 ∧
                   (↑(List.length (List.getD L (Int.toNat (↑i : Int)) (RPt.mk (ByteArray.mk #[]) (@none Addr) 0 [])).4) : Int) =
                    (↑(List.length (List.getD L (Int.toNat (↑i : Int)) (RPt.mk (ByteArray.mk #[]) (@none Addr) 0 [])).4) : Int) ∧
                    (↑(List.length (List.getD L (Int.toNat (↑i : Int)) (RPt.mk (ByteArray.mk #[]) (@none Addr) 0 [])).4) : Int) =
                     (↑(List.length (List.getD L (Int.toNat (↑i : Int)) (RPt.mk (ByteArray.mk #[]) (@none Addr) 0 [])).4) : Int)) ∧
                 (Ent.mk (Loc.blk b) (SObj.cells [SV.vec 1 aoL (List.length L) capL, SV.int IntKind.i64 nx, SV.vec 2 aoD (List.length ds) capD] (30 : TypeId)) =
                  Ent.mk (Loc.blk b) (SObj.cells [SV.vec 1 aoL (List.length L) capL, SV.int IntKind.i64 nx, SV.vec 2 aoD (List.length ds) capD] (30 : TypeId)) ∧
                  Ent.mk (Loc.sl aoL capL) (SObj.vecL (62 : TypeId) 2 encRpt L (RPt.mk (ByteArray.mk #[]) (@none Addr) 0 [])) =
                   Ent.mk (Loc.sl aoL capL) (SObj.vecL (62 : TypeId) 2 encRpt L (RPt.mk (ByteArray.mk #[]) (@none Addr) 0 [])) ∧
                   Ent.mk (Loc.sl aoD capD) (SObj.vecL (49 : TypeId) 2 encDN ds (DN.mk (0 : Int) (ByteArray.mk #[]))) =
                    Ent.mk (Loc.sl aoD capD) (SObj.vecL (49 : TypeId) 2 encDN ds (DN.mk (0 : Int) (ByteArray.mk #[]))) ∧
                    pk 0 rest = pk 0 rest ∧ True) ∧
                  ((List.getD L (Int.toNat (↑i : Int)) (RPt.mk (ByteArray.mk #[]) (@none Addr) 0 [])).ao =
                   (List.getD L (Int.toNat (↑i : Int)) (RPt.mk (ByteArray.mk #[]) (@none Addr) 0 [])).ao ∧
                   List.length (List.getD L (Int.toNat (↑i : Int)) (RPt.mk (ByteArray.mk #[]) (@none Addr) 0 [])).4 =
                    List.length (List.getD L (Int.toNat (↑i : Int)) (RPt.mk (ByteArray.mk #[]) (@none Addr) 0 [])).4 ∧
                    List.length (List.getD L (Int.toNat (↑i : Int)) (RPt.mk (ByteArray.mk #[]) (@none Addr) 0 [])).4 = List.length g.4 ∧
                     some (Addr.mk b_1 0 (@none Nat)) = some (Addr.mk b_1 0 (@none Nat)) ∧
                      (41 : TypeId) = 41 ∧
                       2 = 2 ∧
                        2 = 2 ∧
                         0 < 1 ∧
                          true = true ∧
                           (List.length (List.getD L (Int.toNat (↑i : Int)) (RPt.mk (ByteArray.mk #[]) (@none Addr) 0 [])).4 + 1) * 24 ≤
                            140737488355328 ∧
                            List.length (List.getD L (Int.toNat (↑i : Int)) (RPt.mk (ByteArray.mk #[]) (@none Addr) 0 [])).4 + 1 ≤
                             9223372036854775807) ∧
                   ∃ (es : List CN),
                    List.length es = 1 ∧
                     denL (List.flatMap encCN es) = denL [SV.int IntKind.i64 nx, SV.str text] ∧
                      ∀ (ao2 : Option Addr) (cap2 : Nat),
                       List.length (List.getD L (Int.toNat (↑i : Int)) (RPt.mk (ByteArray.mk #[]) (@none Addr) 0 [])).4 + 1 ≤ cap2 →
                        (Ent.mk (Loc.blk b)
                         (SObj.cells [SV.vec 1 aoL (List.length L) capL, SV.int IntKind.i64 nx, SV.vec 2 aoD (List.length ds) capD] (30 : TypeId)) =
                         Ent.mk (Loc.blk b)
                          (SObj.cells [SV.vec 1 aoL (List.length L) capL, SV.int IntKind.i64 nx, SV.vec 2 aoD (List.length ds) capD] (30 : TypeId)) ∧
                         Ent.mk (Loc.sl aoL capL) (SObj.vecL (62 : TypeId) 2 encRpt L (RPt.mk (ByteArray.mk #[]) (@none Addr) 0 [])) =
                          Ent.mk (Loc.sl aoL capL) (SObj.vecL (62 : TypeId) 2 encRpt L (RPt.mk (ByteArray.mk #[]) (@none Addr) 0 [])) ∧
                          Ent.mk (Loc.sl aoD capD) (SObj.vecL (49 : TypeId) 2 encDN ds (DN.mk (0 : Int) (ByteArray.mk #[]))) =
                           Ent.mk (Loc.sl aoD capD) (SObj.vecL (49 : TypeId) 2 encDN ds (DN.mk (0 : Int) (ByteArray.mk #[]))) ∧
                           pk 0 rest = pk 0 rest ∧ True) ∧
                         (aoL = aoL ∧ capL = capL ∧ List.length L = List.length L ∧ (0 : Int) ≤ (↑i : Int) ∧ (↑i : Int) < (↑(List.length L) : Int)) ∧
                          (Addr.blkD aoL = Addr.blkD aoL ∧
                           Addr.offD aoL = Addr.offD aoL ∧
                            2 = 2 ∧ Int.toNat (↑i : Int) < List.length L ∧ true = true ∧ 1 = 1 ∧ 2 ≤ 2) ∧
                           ∃ (e : RPt),
                            denL [SV.str e.1, SV.vec 4 e.ao (List.length e.4) e.3] =
                             denL
                              [SV.str (List.getD L (Int.toNat (↑i : Int)) (RPt.mk (ByteArray.mk #[]) (@none Addr) 0 [])).1,
                               SV.vec 4 ao2
                                (List.length (List.getD L (Int.toNat (↑i : Int)) (RPt.mk (ByteArray.mk #[]) (@none Addr) 0 [])).4 + 1) cap2] ∧
                             b = b ∧
                              N
                               [Ent.mk (Loc.blk b)
                                (SObj.cells [SV.vec 1 aoL (List.length L) capL, SV.int IntKind.i64 nx, SV.vec 2 aoD (List.length ds) capD]
                                 (30 : TypeId)),
                                Ent.mk (Loc.sl aoL capL)
                                 (SObj.vecL (62 : TypeId) 2 encRpt (List.set L (Int.toNat (↑i : Int)) e)
                                  (RPt.mk (ByteArray.mk #[]) (@none Addr) 0 [])),
                                Ent.mk (Loc.sl aoD capD) (SObj.vecL (49 : TypeId) 2 encDN ds (DN.mk (0 : Int) (ByteArray.mk #[]))), pk 0 rest,
                                Ent.mk (Loc.sl ao2 cap2) (SObj.vecL (41 : TypeId) 2 encCN (g.4 ++ es) (CN.mk (0 : Int) (ByteArray.mk #[]))),
                                Ent.mk (Loc.blk b_1) (SObj.cells [SV.int IntKind.i64 nx, SV.str text] 41)]
                               (SV.tuple [SV.int IntKind.i64 nx, SV.int IntKind.i64 (0 : Int)])) := by kernel_rfl
end Go.Proofs.Ytkcmgcoppecfpaa

namespace Go.Proofs.Ytkcmgcoppecfpaa
open Go Go.RowKit

theorem qac_4 (K : List Frm → Sy → Prop) (N : List Ent → SV → Prop) (b : Nat) (aoL : Option Addr) (capL : Nat) (L : List RPt) (nx : Int) (aoD : Option Addr) (capD : Nat) (ds : List DN) (rest : List Ent) (g : RPt) (ab : Nat) (c : CN) (cs : List CN) (i : Nat) (u : Nat → Value) : (run Try.prog [] true [5] K (retP Try.prog Try.f19.results.toList N) 1500 (frmR [] (bodyOf Try.f19) 4) ⟨mkT u 57 0 [(0, .ptr 0 b 0), (4, .ptr 5 ab 0), (6, .int .i64 (i : Int))], [⟨.blk b, .cells [.vec 1 aoL (L).length capL, .int .i64 nx, .vec 2 aoD ds.length capD] 30⟩, ⟨.sl aoL capL, .vecL 62 2 encRpt (L) zP⟩, ⟨.sl aoD capD, .vecL 49 2 encDN ds DN.zero⟩, pk 0 rest, ⟨.sl g.ao g.cap, .vecL 41 2 encCN g.cs CN.zero⟩, ⟨.blk ab, .cells (encCN CN.zero) 41⟩]⟩) = (
b = b ∧
 (aoL = aoL ∧ capL = capL ∧ List.length L = List.length L ∧ (0 : Int) ≤ (↑i : Int) ∧ (↑i : Int) < (↑(List.length L) : Int)) ∧
  (Addr.blkD aoL = Addr.blkD aoL ∧ Addr.offD aoL = Addr.offD aoL ∧ 2 = 2 ∧ Int.toNat (↑i : Int) < List.length L) ∧
   (g.ao = (List.getD L (Int.toNat (↑i : Int)) (RPt.mk (ByteArray.mk #[]) (@none Addr) 0 [])).ao ∧
    g.3 = (List.getD L (Int.toNat (↑i : Int)) (RPt.mk (ByteArray.mk #[]) (@none Addr) 0 [])).3 ∧
     List.length (List.getD L (Int.toNat (↑i : Int)) (RPt.mk (ByteArray.mk #[]) (@none Addr) 0 [])).4 = List.length g.4 ∧
      (0 : Int) ≤ (0 : Int) ∧ (0 : Int) < (↑(List.length (List.getD L (Int.toNat (↑i : Int)) (RPt.mk (ByteArray.mk #[]) (@none Addr) 0 [])).4) : Int)) ∧
    (Addr.blkD (List.getD L (Int.toNat (↑i : Int)) (RPt.mk (ByteArray.mk #[]) (@none Addr) 0 [])).ao = Addr.blkD g.ao ∧
     Addr.offD (List.getD L (Int.toNat (↑i : Int)) (RPt.mk (ByteArray.mk #[]) (@none Addr) 0 [])).ao = Addr.offD g.ao ∧
      2 = 2 ∧ 0 < List.length g.4 ∧ 2 = 2) ∧
     ∀ (b_1 : Nat),
      (b_1 = b_1 ∧ true = true ∧ 2 = 2 ∧ 2 ≤ 2) ∧
       K (frmR [] (bodyOf Try.f19) 5)
        (Sy.mk (SV.ptr 0 b 0 :: (rawR u 1 (SV.ptr 5 ab 0 :: (SV.raw (u 5) :: (SV.int IntKind.i64 (↑i : Int) :: (SV.raw (u 7) :: (SV.ptr 6 b_1 0 :: (rawR u 9 (SV.ptr 0 b 0 :: (SV.ptr 0 b 0 :: (SV.ptr 0 b 0 :: (SV.vec 1 aoL (List.length L) capL :: (SV.int IntKind.i64 (↑i : Int) :: (SV.eptr 1 (Addr.blkD aoL) (Addr.offD aoL) 2 (Int.toNat (↑i : Int)) 0 :: (SV.eptr 1 (Addr.blkD aoL) (Addr.offD aoL) 2 (Int.toNat (↑i : Int)) 1 :: (SV.vec 4 (List.getD L (Int.toNat (↑i : Int)) (RPt.mk (ByteArray.mk #[]) (@none Addr) 0 [])).ao (List.length (List.getD L (Int.toNat (↑i : Int)) (RPt.mk (ByteArray.mk #[]) (@none Addr) 0 [])).4) (List.getD L (Int.toNat (↑i : Int)) (RPt.mk (ByteArray.mk #[]) (@none Addr) 0 [])).3 :: (SV.eptr 4 (Addr.blkD (List.getD L (Int.toNat (↑i : Int)) (RPt.mk (ByteArray.mk #[]) (@none Addr) 0 [])).ao) (Addr.offD (List.getD L (Int.toNat (↑i : Int)) (RPt.mk (ByteArray.mk #[]) (@none Addr) 0 [])).ao) 2 0 0 :: (SV.agg [SV.int IntKind.i64 (List.getD g.4 0 (CN.mk (0 : Int) (ByteArray.mk #[]))).1, SV.str (List.getD g.4 0 (CN.mk (0 : Int) (ByteArray.mk #[]))).2] :: (rawR u 40 [] 17))))))))))) 21)))))) 3))
         [Ent.mk (Loc.blk b) (SObj.cells [SV.vec 1 aoL (List.length L) capL, SV.int IntKind.i64 nx, SV.vec 2 aoD (List.length ds) capD] (30 : TypeId)),
          Ent.mk (Loc.sl aoL capL) (SObj.vecL (62 : TypeId) 2 encRpt L (RPt.mk (ByteArray.mk #[]) (@none Addr) 0 [])),
          Ent.mk (Loc.sl aoD capD) (SObj.vecL (49 : TypeId) 2 encDN ds (DN.mk (0 : Int) (ByteArray.mk #[]))), pk 0 rest,
          Ent.mk (Loc.sl g.ao g.3) (SObj.vecL (41 : TypeId) 2 encCN g.4 (CN.mk (0 : Int) (ByteArray.mk #[]))),
          Ent.mk (Loc.blk ab) (SObj.cells [SV.int IntKind.i64 (0 : Int), SV.str (CN.mk (0 : Int) (ByteArray.mk #[])).text] (41 : TypeId)),
          Ent.mk (Loc.blk b_1)
           (SObj.cells [SV.int IntKind.i64 (List.getD g.4 0 (CN.mk (0 : Int) (ByteArray.mk #[]))).1, SV.str (List.getD g.4 0 (CN.mk (0 : Int) (ByteArray.mk #[]))).2]
            41)])) := by kernel_rfl


theorem qac_5 (K : List Frm → Sy → Prop) (N : List Ent → SV → Prop) (b : Nat) (aoL : Option Addr) (capL : Nat) (L : List RPt) (nx : Int) (aoD : Option Addr) (capD : Nat) (ds : List DN) (rest : List Ent) (g : RPt) (ab cb : Nat) (c : CN) (i : Nat) (u : Nat → Value) : (run Try.prog [] true [200007] K (retP Try.prog Try.f19.results.toList N) 1500 (frmR [] (bodyOf Try.f19) 5) ⟨mkT u 57 0 [(0, .ptr 0 b 0), (4, .ptr 5 ab 0), (6, .int .i64 (i : Int)), (8, .ptr 6 cb 0)], [⟨.blk b, .cells [.vec 1 aoL (L).length capL, .int .i64 nx, .vec 2 aoD ds.length capD] 30⟩, ⟨.sl aoL capL, .vecL 62 2 encRpt (L) zP⟩, ⟨.sl aoD capD, .vecL 49 2 encDN ds DN.zero⟩, pk 0 rest, ⟨.sl g.ao g.cap, .vecL 41 2 encCN g.cs CN.zero⟩, ⟨.blk ab, .cells (encCN CN.zero) 41⟩, ⟨.blk cb, .cells (encCN c) 41⟩]⟩) = (
b = b ∧
 b = b ∧
  (aoL = aoL ∧ capL = capL ∧ List.length L = List.length L ∧ (0 : Int) ≤ (↑i : Int) ∧ (↑i : Int) < (↑(List.length L) : Int)) ∧
   (Addr.blkD aoL = Addr.blkD aoL ∧ Addr.offD aoL = Addr.offD aoL ∧ 2 = 2 ∧ Int.toNat (↑i : Int) < List.length L) ∧
    ((0 : Int) ≤ (1 : Int) ∧
     (1 : Int) ≤ (↑(List.length (List.getD L (Int.toNat (↑i : Int)) (RPt.mk (ByteArray.mk #[]) (@none Addr) 0 [])).4) : Int) ∧
      List.length (List.getD L (Int.toNat (↑i : Int)) (RPt.mk (ByteArray.mk #[]) (@none Addr) 0 [])).4 ≤
       (List.getD L (Int.toNat (↑i : Int)) (RPt.mk (ByteArray.mk #[]) (@none Addr) 0 [])).3) ∧
     (aoL = aoL ∧ capL = capL ∧ List.length L = List.length L ∧ (0 : Int) ≤ (↑i : Int) ∧ (↑i : Int) < (↑(List.length L) : Int)) ∧
      (Addr.blkD aoL = Addr.blkD aoL ∧
       Addr.offD aoL = Addr.offD aoL ∧ 2 = 2 ∧ Int.toNat (↑i : Int) < List.length L ∧ true = true ∧ 1 = 1 ∧ 2 ≤ 2) ∧
       ∃ (e : RPt),
        denL [SV.str e.1, SV.vec 4 e.ao (List.length e.4) e.3] =
         denL
          [SV.str (List.getD L (Int.toNat (↑i : Int)) (RPt.mk (ByteArray.mk #[]) (@none Addr) 0 [])).1,
           SV.sub 4 (List.getD L (Int.toNat (↑i : Int)) (RPt.mk (ByteArray.mk #[]) (@none Addr) 0 [])).ao
            (List.getD L (Int.toNat (↑i : Int)) (RPt.mk (ByteArray.mk #[]) (@none Addr) 0 [])).3 2 1
            (List.length (List.getD L (Int.toNat (↑i : Int)) (RPt.mk (ByteArray.mk #[]) (@none Addr) 0 [])).4)] ∧
         (cb = cb ∧ 2 = 2) ∧
          (ab = ab ∧ true = true ∧ 2 = 2 ∧ 2 ≤ 2) ∧
           (ab = ab ∧ 2 = 2) ∧
            N
             [Ent.mk (Loc.blk b) (SObj.cells [SV.vec 1 aoL (List.length L) capL, SV.int IntKind.i64 nx, SV.vec 2 aoD (List.length ds) capD] (30 : TypeId)),
              Ent.mk (Loc.sl aoL capL) (SObj.vecL (62 : TypeId) 2 encRpt (List.set L (Int.toNat (↑i : Int)) e) (RPt.mk (ByteArray.mk #[]) (@none Addr) 0 [])),
              Ent.mk (Loc.sl aoD capD) (SObj.vecL (49 : TypeId) 2 encDN ds (DN.mk (0 : Int) (ByteArray.mk #[]))), pk 0 rest,
              Ent.mk (Loc.sl g.ao g.3) (SObj.vecL (41 : TypeId) 2 encCN g.4 (CN.mk (0 : Int) (ByteArray.mk #[]))),
              Ent.mk (Loc.blk ab) (SObj.cells [SV.int IntKind.i64 c.1, SV.str c.2] (41 : TypeId)), Ent.mk (Loc.blk cb) (SObj.cells [SV.int IntKind.i64 c.1, SV.str c.2] (41 : TypeId))]
             (SV.tuple [SV.agg [SV.int IntKind.i64 c.1, SV.str c.2], SV.int IntKind.i64 (0 : Int)])) := by kernel_rfl
end Go.Proofs.Ytkcmgcoppecfpaa

