/- QueueBoth: its states. -/
import Derived.Test.YtjnkfgigpapeaaaQI3C
import Derived.Test.YtjnkfgigpapeaaaTab
namespace Go.Proofs.Ytjnkfgigpapeaaa
open Go Go.RowKit
set_option linter.unusedVariables false
def encI16 (x : Int) : List SV := [.int .i16 x]
def encBool (x : Bool) : List SV := [.bool x]
def trueC13 : Ctr := fun args hs N => match args with
  | [] => N hs (.bool true)
  | _ => False
def qTI5 : Tbl := (34, trueC13) :: qTI4
abbrev qbHeap (ao : Option Addr) (cap : Nat) (bs : List Int) (ao' : Option Addr) (cap' : Nat) (ps : List Bool) (qa : Nat) (aoa : Option Addr) (capa : Nat) (xs : List (Int × Int)) (na : Int) (qb : Nat) (aob : Option Addr) (capb : Nat) (ys : List (Int × Int)) (nb : Int) : List Ent :=
  [⟨.sl ao cap, .roL 1 encI16 bs 0⟩, ⟨.sl ao' cap', .roL 1 encBool ps false⟩,
   ⟨.blk qa, .cells [.vec 3 aoa xs.length capa, .func (.func 41) [] [], .int .i64 na] 146⟩, ⟨.sl aoa capa, .vecL 149 2 encItI xs ((0 : Int), (0 : Int))⟩,
   ⟨.blk qb, .cells [.vec 5 aob ys.length capb, .func (.func 42) [] [], .int .i64 nb] 146⟩, ⟨.sl aob capb, .vecL 149 2 encItI ys ((0 : Int), (0 : Int))⟩]
end Go.Proofs.Ytjnkfgigpapeaaa
