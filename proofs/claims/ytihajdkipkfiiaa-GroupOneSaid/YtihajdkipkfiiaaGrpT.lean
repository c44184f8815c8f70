/- The groups' methods as a table. -/
import Derived.Test.YtihajdkipkfiiaaGrpC
namespace Go.Proofs.Ytihajdkipkfiiaa
open Go Go.RowKit
set_option linter.unusedVariables false
def gTb : Tbl := [(13, newGC), (14, adtC grpE makeM), (16, adtC grpE putM), (15, adtC grpE goneM), (60, adtC grpE removeM), (19, adtC grpE emptiedM)]
end Go.Proofs.Ytihajdkipkfiiaa
