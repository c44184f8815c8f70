/- reveillelaw2: contracts. -/
import Derived.Test.YtjnkfgigpapeaaaCivC
namespace Go.Proofs.Ytjnkfgigpapeaaa
open Go Go.RowKit
set_option linter.unusedVariables false
set_option linter.unusedSimpArgs false
set_option linter.unnecessarySimpa false
def known2C : Ctr := fun args hs N => match args with
  | [] => N hs (.bool true)
  | _ => False
def civ6 : Tbl := (14, known2C) :: civ5
end Go.Proofs.Ytjnkfgigpapeaaa
