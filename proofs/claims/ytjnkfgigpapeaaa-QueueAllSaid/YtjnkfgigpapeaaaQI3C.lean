/- queue.Queue[int]: its functions in line. -/
import Derived.Test.YtjnkfgigpapeaaaQI2
import Derived.Test.YtjnkfgigpapeaaaTab
namespace Go.Proofs.Ytjnkfgigpapeaaa
open Go Go.RowKit
set_option linter.unusedVariables false
theorem RI_0 : RI 77 (fun a b : Int => decide (a < b)) := .inl ⟨rfl, rfl⟩
theorem RI_1 : RI 41 (fun a b : Int => decide (a < b)) := .inr (.inl ⟨rfl, rfl⟩)
theorem RI_2 : RI 42 (fun a b : Int => decide (a > b)) := .inr (.inr (.inl ⟨rfl, rfl⟩))
theorem RI_3 : RI 53 (fun a b : Int => decide (a < b)) := .inr (.inr (.inr (⟨rfl, rfl⟩)))
def qTI3 : Tbl := [(80, hpushC 149 2 encItI ((0 : Int), (0 : Int)) 147 16 RI), (81, hpopC 149 2 encItI ((0 : Int), (0 : Int)) 147 RI), (45, inl Try.prog [] false Try.f45 100)]
def qTI4 : Tbl := (43, inl Try.prog qTI3 false Try.f43 200) :: (44, inl Try.prog qTI3 false Try.f44 200) :: (40, inl Try.prog [] false Try.f40 200) :: (78, inl Try.prog qTI3 false Try.f78 200) :: (35, inl Try.prog [] false Try.f35 200) :: (38, inl Try.prog [(39, inl Try.prog [] false Try.f39 100)] false Try.f38 200) :: qTI3
theorem qTI3_ok : AllOk Try.prog qTI3 := ⟨qIhpush_ok, qIhpop_ok, inl_ok trivial hmQI Try.func45 (by kernel_rfl), trivial⟩
theorem qTI4_ok : AllOk Try.prog qTI4 := ⟨inl_ok qTI3_ok hmQI Try.func43 (by kernel_rfl), inl_ok qTI3_ok hmQI Try.func44 (by kernel_rfl), inl_ok trivial hmQI Try.func40 (by kernel_rfl), inl_ok qTI3_ok hmQI Try.func78 (by kernel_rfl), inl_ok trivial hmQI Try.func35 (by kernel_rfl), inl_ok ⟨inl_ok trivial hmQI Try.func39 (by kernel_rfl), trivial⟩ hmQI Try.func38 (by kernel_rfl), qTI3_ok⟩
end Go.Proofs.Ytjnkfgigpapeaaa
