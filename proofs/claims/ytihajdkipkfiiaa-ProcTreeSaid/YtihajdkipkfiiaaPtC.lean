/- ProcTree: the argument's bytes. -/
import Derived.Test.YtihajdkipkfiiaaPrcT
namespace Go.Proofs.Ytihajdkipkfiiaa
open Go Go.RowKit
def encU8 (x : Int) : List SV := [.int .u8 x]
end Go.Proofs.Ytihajdkipkfiiaa
