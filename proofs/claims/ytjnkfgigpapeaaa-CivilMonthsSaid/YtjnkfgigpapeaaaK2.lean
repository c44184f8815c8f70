/- reveillelaw2.known. -/
import Derived.Test.YtjnkfgigpapeaaaK2Run
import Derived.Test.YtjnkfgigpapeaaaMom
import Derived.Test.YtjnkfgigpapeaaaRng
namespace Go.Proofs.Ytjnkfgigpapeaaa
open Go Go.RowKit
set_option linter.unusedVariables false
set_option linter.unusedSimpArgs false
set_option linter.unnecessarySimpa false

theorem known2_ok : CtrOk Try.prog 14 known2C := by
  intro args hs N h
  unfold known2C at h
  split at h
  · refine Spec.pure (Cs := civ5) (kc := true) (ss := []) 600 30 civ5_ok hm Try.func14 (by kernel_rfl) (by kernel_rfl) rfl h fun K => ?_
    rw [known2_run]
    simp
  · exact h.elim
theorem civ6_ok : AllOk Try.prog civ6 := ⟨known2_ok, civ5_ok⟩
end Go.Proofs.Ytjnkfgigpapeaaa
