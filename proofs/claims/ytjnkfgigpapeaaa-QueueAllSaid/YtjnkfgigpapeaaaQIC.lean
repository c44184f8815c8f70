/- queue.Queue[int]: its elements. -/
import Derived.Test.YtjnkfgigpapeaaaQG
import Derived.Test.YtjnkfgigpapeaaaTab
namespace Go.Proofs.Ytjnkfgigpapeaaa
open Go Go.RowKit
set_option linter.unusedVariables false
def encItI (x : Int × Int) : List SV := [.int .i64 x.1, .int .i64 x.2]
end Go.Proofs.Ytjnkfgigpapeaaa
