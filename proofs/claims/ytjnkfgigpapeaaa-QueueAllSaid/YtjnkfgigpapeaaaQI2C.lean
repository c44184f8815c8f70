/- queue.Queue[int]: the tables. -/
import Derived.Test.YtjnkfgigpapeaaaQI1
import Derived.Test.YtjnkfgigpapeaaaTab
namespace Go.Proofs.Ytjnkfgigpapeaaa
open Go Go.RowKit
set_option linter.unusedVariables false
def qTI1 : Tbl := [(135, lessC 149 2 encItI ((0 : Int), (0 : Int)) RI), (138, swapC 149 2 encItI ((0 : Int), (0 : Int))), (137, ppushC 149 2 encItI ((0 : Int), (0 : Int)) 16), (136, ppopC 149 2 encItI ((0 : Int), (0 : Int))), (104, inl Try.prog [] true Try.f104 100)]
theorem qTI1_ok : AllOk Try.prog qTI1 := ⟨qIless_ok, qIswap_ok, qIppush_ok, qIppop_ok, inl_ok trivial hmQI Try.func104 (by kernel_rfl), trivial⟩
def qTI2 : Tbl := (99, upC 149 2 encItI ((0 : Int), (0 : Int)) 147 RI) :: (100, downC 149 2 encItI ((0 : Int), (0 : Int)) 147 RI) :: qTI1
end Go.Proofs.Ytjnkfgigpapeaaa
