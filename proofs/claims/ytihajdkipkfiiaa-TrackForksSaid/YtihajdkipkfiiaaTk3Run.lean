import Derived.Test.YtihajdkipkfiiaaTrkC
import Derived.Test.YtihajdkipkfiiaaRaw
import Derived.Test.YtihajdkipkfiiaaTab
namespace Go.Proofs.Ytihajdkipkfiiaa
set_option linter.unusedVariables false
open Go Go.RowKit
set_option maxHeartbeats 0
set_option maxRecDepth 100000
set_option maxRecDepth 100000

theorem tf1_run (K : List Frm → Sy → Prop) (N : List Ent → SV → Prop) (got : List Int) (c : Nat) (ag : Option Addr) (cg : Nat) (x : Int) : (run Try.prog [] true [] K (retP Try.prog Try.f35.results.toList N) 600 [.code (bodyOf Try.f35)] ⟨padTo 11 [.int .i64 x, .ptr 0 c 0], [⟨.blk c, .cells [.vec 1 ag got.length cg] 32⟩, ⟨.sl ag cg, .vecL 3 1 encI1 got 0⟩]⟩) = (
c = c ∧
 (true = true ∧ 1 = 1 ∧ 0 < 1 ∧ 1 ≤ 16777216) ∧
  ∀ (b : Nat),
   (ag = ag ∧
    cg = cg ∧
     List.length got = List.length got ∧
      some (Addr.mk b 0 (@none Nat)) = some (Addr.mk b 0 (@none Nat)) ∧
       (3 : TypeId) = 3 ∧
        1 = 1 ∧
         1 = 1 ∧
          0 < 1 ∧ true = true ∧ (List.length got + 1) * 8 ≤ 140737488355328 ∧ List.length got + 1 ≤ 9223372036854775807) ∧
    ∃ (es : List Int),
     List.length es = 1 ∧
      List.flatMap encI1 es = [SV.int IntKind.i64 x] ∧
       ∀ (ao2 : Option Addr) (cap2 : Nat),
        List.length got + 1 ≤ cap2 →
         (c = c ∧ true = true ∧ 1 = 1 ∧ 1 ≤ 1) ∧
          c = c ∧
           N
            [Ent.mk (Loc.blk c) (SObj.cells [SV.vec 1 ao2 (List.length got + 1) cap2] (32 : TypeId)),
             Ent.mk (Loc.sl ao2 cap2) (SObj.vecL (3 : TypeId) 1 encI1 (got ++ es) (0 : Int)), Ent.mk (Loc.blk b) (SObj.cells [SV.int IntKind.i64 x] 3)]
            (SV.bool (decide ((↑(List.length got + 1) : Int) < (200 : Int))))) := by kernel_rfl
end Go.Proofs.Ytihajdkipkfiiaa
