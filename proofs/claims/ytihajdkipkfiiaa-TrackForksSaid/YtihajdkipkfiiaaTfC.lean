/- TrackForks: the functions that it calls. -/
import Derived.Test.YtihajdkipkfiiaaTrk3
import Derived.Test.YtihajdkipkfiiaaIntC
namespace Go.Proofs.Ytihajdkipkfiiaa
open Go Go.RowKit
set_option linter.unusedVariables false
set_option linter.unusedSimpArgs false
set_option linter.unnecessarySimpa false
set_option maxHeartbeats 0

def encU8 (x : Int) : List SV := [.int .u8 x]
/-- A function that needs nothing and says 'true'. -/
def trueC : Ctr := fun args hs N => match args with
  | [] => N hs (.bool true)
  | _ => False
def tkT1 : Tbl := [(34, pidsC), (82, inl Try.prog [(102, appSeqC)] true Try.f82 100)]
def tkT : Tbl := [(30, newTC), (31, adtC trkE taddM), (32, adtC trkE tforkM), (33, adtC trkE tgoneM), (56, adtC trkE tunitM), (34, pidsC)]
def tfT : Tbl := (29, trueC) :: (99, valsC) :: (17, intsC) :: (36, inl Try.prog tkT1 true Try.f36 600) :: tkT
def names2 : ByteArray := ⟨#[97, 98]⟩
end Go.Proofs.Ytihajdkipkfiiaa
