/- The processes as a table of methods. -/
import Derived.Test.YtihajdkipkfiiaaPrcD
namespace Go.Proofs.Ytihajdkipkfiiaa
open Go Go.RowKit
set_option linter.unusedVariables false
set_option linter.unusedSimpArgs false
set_option linter.unnecessarySimpa false
set_option maxHeartbeats 0

/-- Kill, by cases. -/
def killByM (s : PT) (args : List SV) (N : PT → SV → Prop) : Prop := match args with
  | [.int .i64 pid, .int .i64 sig] => pOk s ∧ (match sig == 15 with
    | true => N (pKill s pid 15).1 (.int .i64 (pKill s pid 15).2)
    | false => match sig == 9 with
      | true => N (pKill s pid 9).1 (.int .i64 (pKill s pid 9).2)
      | false => N s (.int .i64 80))
  | _ => False
/-- Its answer is true. -/
def trueC : Ctr := fun args hs N => match args with
  | [] => N hs (.bool true)
  | _ => False
def ptT : Tbl := [(21, newPC), (22, adtC ptE spawnM), (23, adtC ptE forkM), (24, adtC ptE exitM), (41, adtC ptE killByM), (45, adtC ptE signalsM), (26, adtC ptE getM), (28, adtC ptE lenM), (25, adtC ptE reapM), (27, allPC)]
def ptTk : Tbl := (20, trueC) :: ptT
end Go.Proofs.Ytihajdkipkfiiaa
