/- queue.Queue[string]: its elements. -/
import Derived.Test.YtjnkfgigpapeaaaQG
import Derived.Test.YtjnkfgigpapeaaaTab
namespace Go.Proofs.Ytjnkfgigpapeaaa
open Go Go.RowKit
set_option linter.unusedVariables false
def encItS (x : ByteArray × Int) : List SV := [.str x.1, .int .i64 x.2]
end Go.Proofs.Ytjnkfgigpapeaaa
