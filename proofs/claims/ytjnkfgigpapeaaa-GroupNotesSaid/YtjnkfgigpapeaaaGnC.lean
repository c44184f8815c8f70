/- GroupNotes: the functions that it calls. -/
import Derived.Test.YtjnkfgigpapeaaaGrpT
namespace Go.Proofs.Ytjnkfgigpapeaaa
open Go Go.RowKit
set_option linter.unusedVariables false
def encU8 (x : Int) : List SV := [.int .u8 x]
def encB (x : Bool) : List SV := [.bool x]
def names8 : ByteArray := ⟨#[97, 98, 99, 100, 101, 102, 103, 104]⟩
/-- A function that needs nothing and says 'true'. -/
def trueC : Ctr := fun args hs N => match args with
  | [] => N hs (.bool true)
  | _ => False
def gTk : Tbl := (46, trueC) :: gTb
end Go.Proofs.Ytjnkfgigpapeaaa
