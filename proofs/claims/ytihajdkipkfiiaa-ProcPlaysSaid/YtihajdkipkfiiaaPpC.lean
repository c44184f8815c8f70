/- ProcPlays: its calls. -/
import Derived.Test.YtihajdkipkfiiaaRtC
namespace Go.Proofs.Ytihajdkipkfiiaa
open Go Go.RowKit
set_option linter.unusedVariables false
set_option linter.unusedSimpArgs false
set_option linter.unnecessarySimpa false
set_option maxHeartbeats 0

/-- A call of a table. -/
structure StepP where
  (what a b : Int) (g c : ByteArray)
def encStep (s : StepP) : List SV := [.int .i64 s.what, .int .i64 s.a, .int .i64 s.b, .str s.g, .str s.c]
def StepP.zero : StepP := ⟨0, 0, 0, ⟨#[]⟩, ⟨#[]⟩⟩
def ppT : Tbl := (37, rNewC) :: (38, adtC rtE raSpawnM) :: (39, adtC rtE raForkM) :: (40, adtC rtE raExitM) :: (42, adtC rtE raKillM) :: (46, adtC rtE raSignalsM) :: (44, adtC rtE raGetM) :: (47, adtC rtE raLenM) :: (43, adtC rtE raReapM) :: (49, rAllC) :: (48, procsC) :: (41, adtC ptE killM) :: ptTk
end Go.Proofs.Ytihajdkipkfiiaa
