/- slices.Clone of the program's slices. -/
import Derived.Test.YtjnkfgigpapeaaaClRun
import Derived.Test.YtjnkfgigpapeaaaAid
namespace Go.Proofs.Ytjnkfgigpapeaaa
open Go Go.RowKit
set_option linter.unusedVariables false
set_option linter.unusedSimpArgs false
set_option linter.unnecessarySimpa false

theorem hmX : Try.prog.follows .mixedOrders = true := by kernel_rfl
theorem cloneConn_ok : CtrOk Try.prog 75 (cloneC 52 2 24) := by
  refine clone_ok fun α enc xs d ao cap g1 g2 => ?_
  refine Spec.of_G 8 Try.func75 (c := bodyOf Try.f75) (by kernel_rfl) (by kernel_rfl) (Nat.le_of_ble_eq_true rfl) fun W F => ?_
  refine G_run (Cs := []) (kc := false) (ss := []) trivial hmX 300 ?_
  rw [clone_run]
  split <;> rename_i hh
  · exact .inl ⟨hh, rfl, rfl⟩
  · intro b
    refine ⟨⟨rfl, rfl, rfl, rfl, rfl, rfl, rfl, rfl, rfl, rfl, g1, g2⟩, fun ao2 cap2 h => .inr ⟨ao2, cap2, h, rfl, rfl⟩⟩
end Go.Proofs.Ytjnkfgigpapeaaa
