/- ProcSignals. -/
import Derived.Test.YtihajdkipkfiiaaPrc6
namespace Go.Proofs.Ytihajdkipkfiiaa
open Go Go.RowKit
set_option linter.unusedVariables false
set_option linter.unusedSimpArgs false
set_option linter.unnecessarySimpa false
set_option maxHeartbeats 0

theorem ptTk_ok : AllOk Try.prog ptTk := ⟨known8_ok, ptT_ok⟩
theorem ps_ok (term kill : Bool) (sig : Int) : Spec Try.prog 9 [] [.bool term, .bool kill, .int .i64 sig] fun _ r => r = .bool true := by
  refine Spec.of_G 111 Try.func9 (c := bodyOf Try.f9) (by kernel_rfl) (by kernel_rfl) (Nat.le_of_ble_eq_true rfl) fun W F => ?_
  refine G_run (kc := false) (ss := []) ptTk_ok hmP 3000 ?_
  rw [ps_run]
  have e1 : (sig != 15) = !(sig == 15) := rfl
  have e2 : (sig != 9) = !(sig == 9) := rfl
  rw [e1, e2]
  cases h1 : sig == 15 <;> cases h2 : sig == 9 <;> cases term <;> cases kill <;> (
    repeat' first
      | apply And.intro
      | exact rfl
      | exact HEq.rfl
      | exact pOk_lit rfl rfl rfl
      | (show _ ≤ _; decide)
      | (refine fun _ => ?_)
      | (refine ⟨rfl, ?_⟩)
)
end Go.Proofs.Ytihajdkipkfiiaa
