import Derived.Test.YtjnkfgigpapeaaaPSC
import Derived.Test.YtjnkfgigpapeaaaPSRun
import Derived.Test.YtjnkfgigpapeaaaPS2RunP1
import Derived.Test.YtjnkfgigpapeaaaPS2RunP2
import Derived.Test.YtjnkfgigpapeaaaTab
namespace Go.Proofs.Ytjnkfgigpapeaaa
set_option linter.unusedVariables false
open Go Go.RowKit
set_option maxHeartbeats 0
set_option maxRecDepth 100000
set_option maxRecDepth 100000


end Go.Proofs.Ytjnkfgigpapeaaa
