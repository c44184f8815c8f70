/- reveillehelp.Ints. -/
import Derived.Test.YtihajdkipkfiiaaSrt
namespace Go.Proofs.Ytihajdkipkfiiaa
open Go Go.RowKit
set_option linter.unusedVariables false
set_option linter.unusedSimpArgs false
set_option linter.unnecessarySimpa false
set_option maxHeartbeats 0

/-- reveillehelp.Ints, where both rows are the same. -/
def intsC : Ctr := fun args hs N => match args with
  | [.vec l ao n cap, .vec l' ao' n' cap'] => ∃ xs : List Int, nth hs l = some ⟨.sl ao cap, .vecL 3 1 encI1 xs 0⟩ ∧ nth hs l' = some ⟨.sl ao' cap', .vecL 3 1 encI1 xs 0⟩ ∧ (Nat.beq l l' = false ∧ n = xs.length ∧ n' = xs.length ∧ xs.length ≤ 1000000) ∧ N hs (.bool true)
  | _ => False
end Go.Proofs.Ytihajdkipkfiiaa
