/- queue.Queue[string]: the tables. -/
import Derived.Test.YtjnkfgigpapeaaaQS1
import Derived.Test.YtjnkfgigpapeaaaTab
namespace Go.Proofs.Ytjnkfgigpapeaaa
open Go Go.RowKit
set_option linter.unusedVariables false
def qTS1 : Tbl := [(130, lessC 140 2 encItS (ByteArray.empty, (0 : Int)) RS), (133, swapC 140 2 encItS (ByteArray.empty, (0 : Int))), (132, ppushC 140 2 encItS (ByteArray.empty, (0 : Int)) 24), (131, ppopC 140 2 encItS (ByteArray.empty, (0 : Int))), (129, inl Try.prog [] true Try.f129 100)]
theorem qTS1_ok : AllOk Try.prog qTS1 := ⟨qSless_ok, qSswap_ok, qSppush_ok, qSppop_ok, inl_ok trivial hmQS Try.func129 (by kernel_rfl), trivial⟩
def qTS2 : Tbl := (99, upC 140 2 encItS (ByteArray.empty, (0 : Int)) 138 RS) :: (100, downC 140 2 encItS (ByteArray.empty, (0 : Int)) 138 RS) :: qTS1
end Go.Proofs.Ytjnkfgigpapeaaa
