import Derived.Test.YtjnkfgigpapeaaaCBC
import Derived.Test.YtjnkfgigpapeaaaTab
namespace Go.Proofs.Ytjnkfgigpapeaaa
set_option linter.unusedVariables false
open Go Go.RowKit
set_option maxRecDepth 100000

theorem known2_run (K : List Frm → Sy → Prop) (N : List Ent → SV → Prop) : (run Try.prog civ5 true [] K (retP Try.prog Try.f14.results.toList N) 600 [.code (bodyOf Try.f14)] ⟨padTo 30 [], []⟩) = (
(true = true ∧ true = true) ∧
 true = true ∧
  (true = true ∧ true = true) ∧
   true = true ∧
    true = true ∧ ((-1000000 : Int) ≤ (19782 : Int) ∧ (19782 : Int) ≤ (1000000 : Int)) ∧ true = true ∧ ((-1000000 : Int) ≤ (-1 : Int) ∧ (-1 : Int) ≤ (1000000 : Int)) ∧ N [] (SV.bool true)) := by kernel_rfl
end Go.Proofs.Ytjnkfgigpapeaaa
