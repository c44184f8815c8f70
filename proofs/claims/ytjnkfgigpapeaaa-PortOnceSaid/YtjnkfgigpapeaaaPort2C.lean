/- port: Waiting and Close in line, too. -/
import Derived.Test.YtjnkfgigpapeaaaPort
import Derived.Test.YtjnkfgigpapeaaaTab
namespace Go.Proofs.Ytjnkfgigpapeaaa
open Go Go.RowKit
set_option linter.unusedVariables false
def port35 : Tbl := (75, inl Try.prog [] false Try.f75 600) :: port3
def port4 : Tbl := (28, inl Try.prog port35 false Try.f28 600) :: (33, inl Try.prog port35 false Try.f33 600) :: port35
theorem port35_ok : AllOk Try.prog port35 := ⟨inl_ok trivial hmP Try.func75 (by kernel_rfl), port3_ok⟩
theorem port4_ok : AllOk Try.prog port4 := ⟨inl_ok port35_ok hmP Try.func28 (by kernel_rfl), inl_ok port35_ok hmP Try.func33 (by kernel_rfl), port35_ok⟩
end Go.Proofs.Ytjnkfgigpapeaaa
