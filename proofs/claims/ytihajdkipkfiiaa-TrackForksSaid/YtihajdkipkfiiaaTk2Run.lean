import Derived.Test.YtihajdkipkfiiaaTrkC
import Derived.Test.YtihajdkipkfiiaaRaw
import Derived.Test.YtihajdkipkfiiaaTab
namespace Go.Proofs.Ytihajdkipkfiiaa
set_option linter.unusedVariables false
open Go Go.RowKit
set_option maxHeartbeats 0
set_option maxRecDepth 100000
set_option maxRecDepth 100000

theorem as_start (K : List Frm → Sy → Prop) (X : Code → Sy → Prop) (E : Sy → Prop) (xs : List Int) (bx : Nat) (ao : Option Addr) (cap : Nat) : (runR Try.prog [] (noY) true [] K X E 300 [.code (bodyOf Try.f102)] ⟨padTo 13 [.raw (.slice none 0 0), .func (.func 99) [] [.ptr 0 bx 0]], [⟨.blk bx, .cells [.vec 1 ao xs.length cap] 32⟩, ⟨.sl ao cap, .vecL 3 1 encI1 xs 0⟩]⟩) = (
true = true ∧
 ∀ (b : Nat),
  K (frm [] (bodyOf Try.f102) [1, 0, 1, 0] [])
   (Sy.mk (SV.raw (Value.slice (@none Addr) 0 0) :: (SV.func (Fn.func (99 : FuncId)) [] [SV.ptr 0 bx 0] :: (SV.ptr 2 b 0 :: (SV.raw (Value.tuple #[]) :: (SV.raw (Value.slice (@none Addr) 0 0) :: (SV.raw (Value.tuple #[]) :: (SV.func (Fn.func (99 : FuncId)) [] [SV.ptr 0 bx 0] :: (rawE [] 6))))))))
    [Ent.mk (Loc.blk bx) (SObj.cells [SV.vec 1 ao (List.length xs) cap] (32 : TypeId)), Ent.mk (Loc.sl ao cap) (SObj.vecL (3 : TypeId) 1 encI1 xs (0 : Int)),
     Ent.mk (Loc.blk b) (SObj.cells [SV.raw (Value.slice (@none Addr) 0 0)] 32)])) := by kernel_rfl


theorem as_asg (K : List Frm → Sy → Prop) (X : Code → Sy → Prop) (E : Sy → Prop) (got : List Int) (c D l : Nat) (ag : Option Addr) (cg : Nat) (rc : Loop) (x : Int) (u : Nat → Value) : (runR Try.prog [] (noY) true [] K X E 60 ([.code (rfA (codeAt (bodyOf Try.f102) [1, 0, 1, 0]))]) ⟨mkT u 13 0 [(2, .ptr 0 c 0), (7, .int .i64 x)], [⟨.blk c, .cells [.vec 1 ag got.length cg] 32⟩, ⟨.sl ag cg, .vecL 3 1 encI1 got 0⟩, dent D true, lp l rc .ready none]⟩) = (
E
 (Sy.mk (SV.raw (u 0) :: (SV.raw (u 1) :: (SV.ptr 0 c 0 :: (SV.raw (u 3) :: (SV.raw (u 4) :: (SV.int IntKind.i64 x :: (SV.raw (u 6) :: (SV.int IntKind.i64 x :: (rawR u 8 [] 5)))))))))
  [Ent.mk (Loc.blk c) (SObj.cells [SV.vec 1 ag (List.length got) cg] (32 : TypeId)), Ent.mk (Loc.sl ag cg) (SObj.vecL (3 : TypeId) 1 encI1 got (0 : Int)), dent D true,
   lp l rc LoopState.ready (@none Code)])) := by kernel_rfl


theorem as_body (K : List Frm → Sy → Prop) (X : Code → Sy → Prop) (E : Sy → Prop) (got : List Int) (c D l : Nat) (ag : Option Addr) (cg : Nat) (rc : Loop) (x : Int) (u : Nat → Value) : (runR Try.prog [] (noY) true [] K X E 600 ([.code (rfB (codeAt (bodyOf Try.f102) [1, 0, 1, 0]))]) ⟨mkT u 13 0 [(2, .ptr 0 c 0), (5, .int .i64 x)], [⟨.blk c, .cells [.vec 1 ag got.length cg] 32⟩, ⟨.sl ag cg, .vecL 3 1 encI1 got 0⟩, dent D true, lp l rc .busy none]⟩) = (
c = c ∧
 (true = true ∧ 1 = 1 ∧ 0 < 1 ∧ 1 ≤ 16777216) ∧
  ∀ (b : Nat),
   (ag = ag ∧
    cg = cg ∧
     List.length got = List.length got ∧
      some (Addr.mk b 0 (@none Nat)) = some (Addr.mk b 0 (@none Nat)) ∧
       (3 : TypeId) = 3 ∧
        1 = 1 ∧
         1 = 1 ∧
          0 < 1 ∧ true = true ∧ (List.length got + 1) * 8 ≤ 140737488355328 ∧ List.length got + 1 ≤ 9223372036854775807) ∧
    ∃ (es : List Int),
     List.length es = 1 ∧
      List.flatMap encI1 es = [SV.int IntKind.i64 x] ∧
       ∀ (ao2 : Option Addr) (cap2 : Nat),
        List.length got + 1 ≤ cap2 →
         (c = c ∧ true = true ∧ 1 = 1 ∧ 1 ≤ 1) ∧
          E
           (Sy.mk (SV.raw (u 0) :: (SV.raw (u 1) :: (SV.ptr 0 c 0 :: (SV.raw (u 3) :: (SV.raw (u 4) :: (SV.int IntKind.i64 x :: (SV.raw (u 6) :: (SV.raw (u 7) :: (SV.vec 1 ag (List.length got) cg :: (SV.int IntKind.i64 x :: (SV.vec 4 (some (Addr.mk b 0 (@none Nat))) 1 1 :: (SV.vec 1 ao2 (List.length got + 1) cap2 :: (SV.raw (u 12) :: [])))))))))))))
            [Ent.mk (Loc.blk c) (SObj.cells [SV.vec 1 ao2 (List.length got + 1) cap2] (32 : TypeId)),
             Ent.mk (Loc.sl ao2 cap2) (SObj.vecL (3 : TypeId) 1 encI1 (got ++ es) (0 : Int)), dent D true, lp l rc LoopState.busy (@none Code),
             Ent.mk (Loc.blk b) (SObj.cells [SV.int IntKind.i64 x] 3)])) := by kernel_rfl


theorem as_end (K : List Frm → Sy → Prop) (E : Sy → Prop) (N : List Ent → SV → Prop) (xs : List Int) (bx : Nat) (ao : Option Addr) (cap : Nat) (got : List Int) (c D l : Nat) (ag : Option Addr) (cg : Nat) (rc : Loop) (u : Nat → Value) : (runR Try.prog [] (noY) true [] K (endMX Try.prog Try.f102.results.toList D 2 N) E 600 ((frm [] (bodyOf Try.f102) [1, 0, 1, 0] []).tail) ⟨mkT u 13 0 [(2, .ptr 0 c 0)], [⟨.blk c, .cells [.vec 1 ag got.length cg] 32⟩, ⟨.sl ag cg, .vecL 3 1 encI1 got 0⟩, dent D true, lp l rc .exhausted none, ⟨.blk bx, .cells [.vec 1 ao xs.length cap] 32⟩, ⟨.sl ao cap, .vecL 3 1 encI1 xs 0⟩]⟩) = (
c = c ∧
 some (dent D true) = some (dent D true) ∧
  N
   [Ent.mk (Loc.blk c) (SObj.cells [SV.vec 1 ag (List.length got) cg] (32 : TypeId)), Ent.mk (Loc.sl ag cg) (SObj.vecL (3 : TypeId) 1 encI1 got (0 : Int)), dent D false,
    lp l rc LoopState.exhausted (@none Code), Ent.mk (Loc.blk bx) (SObj.cells [SV.vec 1 ao (List.length xs) cap] (32 : TypeId)),
    Ent.mk (Loc.sl ao cap) (SObj.vecL (3 : TypeId) 1 encI1 xs (0 : Int))]
   (SV.vec 1 ag (List.length got) cg)) := by kernel_rfl
end Go.Proofs.Ytihajdkipkfiiaa
