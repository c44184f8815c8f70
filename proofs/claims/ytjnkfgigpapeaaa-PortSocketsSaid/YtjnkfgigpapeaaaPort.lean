/- port: what holds of its functions' runs. -/
import Derived.Test.YtjnkfgigpapeaaaPDRun
import Derived.Test.YtjnkfgigpapeaaaPortC
namespace Go.Proofs.Ytjnkfgigpapeaaa
open Go Go.RowKit
set_option linter.unusedVariables false
set_option linter.unusedSimpArgs false
set_option linter.unnecessarySimpa false

theorem hmP : Try.prog.follows .mixedOrders = true := by kernel_rfl
theorem port1_ok : AllOk Try.prog port1 := ⟨inl_ok trivial hmP Try.func71 (by kernel_rfl), inl_ok trivial hmP Try.func72 (by kernel_rfl),
  inl_ok trivial hmP Try.func73 (by kernel_rfl), inl_ok trivial hmP Try.func74 (by kernel_rfl), trivial⟩
theorem port2_ok : AllOk Try.prog port2 := ⟨inl_ok trivial hmP Try.func21 (by kernel_rfl), inl_ok port1_ok hmP Try.func22 (by kernel_rfl), inl_ok port1_ok hmP Try.func23 (by kernel_rfl),
  inl_ok port1_ok hmP Try.func24 (by kernel_rfl), inl_ok port1_ok hmP Try.func25 (by kernel_rfl), inl_ok port1_ok hmP Try.func26 (by kernel_rfl),
  inl_ok port1_ok hmP Try.func27 (by kernel_rfl), port1_ok⟩

theorem known10_ok : CtrOk Try.prog 20 trueC := by
  intro args hs N h
  unfold trueC at h
  split at h
  · refine Spec.pure (Cs := port2) (kc := false) (ss := []) 600 55 port2_ok hmP Try.func20 (by kernel_rfl) (by kernel_rfl) rfl h fun K => ?_
    rw [known10_run]
    repeat' first
      | exact rfl
      | exact trivial
      | assumption
      | intro _
      | apply And.intro
      | decide
  · exact h.elim
theorem port3_ok : AllOk Try.prog port3 := ⟨known10_ok, port2_ok⟩
end Go.Proofs.Ytjnkfgigpapeaaa
