import Derived.Test.YtjnkfgigpapeaaaAid
import Derived.Test.YtjnkfgigpapeaaaTab
namespace Go.Proofs.Ytjnkfgigpapeaaa
set_option linter.unusedVariables false
open Go Go.RowKit
set_option maxHeartbeats 0
set_option maxRecDepth 100000

theorem clone_run (K : List Frm → Sy → Prop) (N : List Ent → SV → Prop) (α : Type) (enc : α → List SV) (xs : List α) (d : α) (ao : Option Addr) (cap : Nat) : (run Try.prog [] false [] K (retP Try.prog Try.f75.results.toList N) 300 [.code (bodyOf Try.f75)] ⟨padTo 8 [.vec 0 ao xs.length cap], [⟨.sl ao cap, .vecL 52 2 enc xs d⟩]⟩) = (
match Option.isNone ao with
| true => N [Ent.mk (Loc.sl ao cap) (SObj.vecL (52 : TypeId) (2 : Nat) enc xs d)] (SV.raw (Value.slice (@none Addr) (0 : Nat) (0 : Nat)))
| false =>
  ∀ (b : Nat),
    (some (Addr.mk b (0 : Nat) (@none Nat)) = some (Addr.mk b (0 : Nat) (@none Nat)) ∧
        (0 : Nat) = (0 : Nat) ∧
          (0 : Nat) = (0 : Nat) ∧
            (0 : Nat) = (0 : Nat) ∧
              (0 : Nat) = (0 : Nat) ∧
                ao = ao ∧
                  (52 : Nat) = (52 : Nat) ∧
                    (2 : Nat) = (2 : Nat) ∧
                      (2 : Nat) = (2 : Nat) ∧ List.length xs = List.length xs ∧ List.length xs * (24 : Nat) ≤ (140737488355328 : Nat) ∧ List.length xs ≤ (9223372036854775807 : Nat)) ∧
      ∀ (ao2 : Option Addr) (cap2 : Nat),
        List.length xs ≤ cap2 →
          N [Ent.mk (Loc.sl ao cap) (SObj.vecL (52 : TypeId) (2 : Nat) enc xs d), Ent.mk (Loc.sl ao2 cap2) (SObj.vecL (52 : Nat) (2 : Nat) enc xs d)] (SV.vec (1 : Nat) ao2 (List.length xs) cap2)) := by kernel_rfl


end Go.Proofs.Ytjnkfgigpapeaaa
