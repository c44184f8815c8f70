import Derived.Test.YtjnkfgigpapeaaaQAC
import Derived.Test.YtjnkfgigpapeaaaQA2RunP1
import Derived.Test.YtjnkfgigpapeaaaQA2RunP2
import Derived.Test.YtjnkfgigpapeaaaTab
namespace Go.Proofs.Ytjnkfgigpapeaaa
set_option linter.unusedVariables false
open Go Go.RowKit
set_option maxHeartbeats 0
set_option maxRecDepth 100000
set_option linter.unusedVariables false
set_option maxRecDepth 100000


end Go.Proofs.Ytjnkfgigpapeaaa
