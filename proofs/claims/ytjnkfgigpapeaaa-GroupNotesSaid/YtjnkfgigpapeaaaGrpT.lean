/- The groups' methods as a table. -/
import Derived.Test.YtjnkfgigpapeaaaGrpC
namespace Go.Proofs.Ytjnkfgigpapeaaa
open Go Go.RowKit
set_option linter.unusedVariables false
def gTb : Tbl := [(47, newGC), (48, adtC grpE makeM), (49, adtC grpE putM), (50, adtC grpE goneM), (51, adtC grpE removeM), (52, adtC grpE emptiedM)]
end Go.Proofs.Ytjnkfgigpapeaaa
