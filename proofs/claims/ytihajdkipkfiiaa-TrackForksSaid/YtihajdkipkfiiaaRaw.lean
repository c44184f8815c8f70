/- Slots of which nothing is said, in short. -/
import Derived.Test.YtihajdkipkfiiaaRun
namespace Go.Proofs.Ytihajdkipkfiiaa
open Go Go.RowKit
/-- n slots from the k-th one on, ahead of t. -/
def rawR (u : Nat → Value) (k : Nat) (t : List SV) : Nat → List SV
  | 0 => t
  | n + 1 => SV.raw (u k) :: rawR u (k + 1) t n
/-- n empty slots ahead of t. -/
def rawE (t : List SV) : Nat → List SV
  | 0 => t
  | n + 1 => SV.raw (Value.tuple #[]) :: rawE t n
end Go.Proofs.Ytihajdkipkfiiaa
