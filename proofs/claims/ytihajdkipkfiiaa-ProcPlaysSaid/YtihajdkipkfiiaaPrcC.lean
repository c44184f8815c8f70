/- Processes (proc.Table): what a table holds; what its methods do. -/
import Derived.Test.YtihajdkipkfiiaaSrt
namespace Go.Proofs.Ytihajdkipkfiiaa
open Go Go.RowKit
set_option linter.unusedVariables false

structure PR where
  (pid parent : Int) (group : ByteArray) (zombie : Bool) (status : Int) (cmd : ByteArray) (term kill : Bool)
def PR.zero : PR := ⟨0, 0, ⟨#[]⟩, false, 0, ⟨#[]⟩, false, false⟩
def encR (r : PR) : List SV := [.int .i64 r.pid, .int .i64 r.parent, .str r.group, .bool r.zombie, .int .i64 r.status, .str r.cmd, .bool r.term, .bool r.kill]
def encP6 (r : PR) : List SV := [.int .i64 r.pid, .int .i64 r.parent, .str r.group, .bool r.zombie, .int .i64 r.status, .str r.cmd]
structure PT where
  (bm : Nat) (ps : List (Nat × PR)) (room last : Int)
def encB1 (b : Nat) : SV := .ptr 2 b 0
def pkey (x : Nat × PR) : Key × Nat := (.i .i64 x.2.pid, x.1)
def procE (x : Nat × PR) : Ent := ⟨.blk x.1, .cells (encR x.2) 127⟩
def ptE (s : PT) (b : Nat) : List Ent := [⟨.blk b, .cells [.map 1 s.bm, .int .i64 s.room, .int .i64 s.last] 130⟩, ⟨.blk s.bm, .mapL (some .i64) encB1 (s.ps.map pkey)⟩, pk 0 (s.ps.map procE)]
def getP (ps : List (Nat × PR)) (pid : Int) : Option (Nat × PR) := ps.find? fun x => x.2.pid == pid
/-- One process is changed. -/
def setOne (pid : Int) (g : PR → PR) (x : Nat × PR) : Nat × PR := match x.2.pid == pid with
  | true => (x.1, g x.2)
  | false => x
def setP (ps : List (Nat × PR)) (pid : Int) (g : PR → PR) : List (Nat × PR) := ps.map (setOne pid g)
/-- Numbers rise; none is above the last one. -/
structure pOk (s : PT) : Prop where
  asc : s.ps.Pairwise fun x y => x.2.pid < y.2.pid
  le : ∀ x ∈ s.ps, 1 ≤ x.2.pid ∧ x.2.pid ≤ s.last
  last : s.last ≤ 1000000
  len : s.ps.length ≤ 1000000
  room : 0 ≤ s.room ∧ s.room ≤ 64
def pNew (room : Int) (bm bp : Nat) : PT := ⟨bm, [(bp, { PR.zero with pid := 1 })], mnI (mxI room 0) 64, 1⟩
def pHas (s : PT) (pid : Int) : Bool := (getP s.ps pid).isSome
def pGet (s : PT) (pid : Int) : PR := ((getP s.ps pid).map (·.2)).getD PR.zero
def pLive (s : PT) (pid : Int) : Bool := pHas s pid && !(pGet s pid).zombie
def pBegins (s : PT) (r : PR) (nb : Nat) : PT × Int × Int := match decide ((s.ps.length : Int) - 1 ≥ s.room) with
  | true => (s, 0, 81)
  | false => ({ s with ps := s.ps ++ [(nb, { r with pid := s.last + 1 })], last := s.last + 1 }, s.last + 1, 0)
def pSpawn (s : PT) (parent : Int) (group cmd : ByteArray) (nb : Nat) : PT × Int × Int := match pLive s parent with
  | true => pBegins s { PR.zero with parent := parent, group := group, cmd := cmd } nb
  | false => (s, 0, 80)
def pFork (s : PT) (pid : Int) (nb : Nat) : PT × Int × Int := match pLive s pid && !(pid == 1) && !(pGet s pid).kill with
  | true => pBegins s { PR.zero with parent := pid, group := (pGet s pid).group, cmd := (pGet s pid).cmd } nb
  | false => (s, 0, 80)
def stOf (status : Int) : Int := match decide (status < -64) || decide (status > 255) with
  | true => 255
  | false => status
/-- Children become the first one's. -/
def orphan (pid : Int) (r : PR) : PR := match r.parent == pid with
  | true => { r with parent := 1 }
  | false => r
def pExit (s : PT) (pid status : Int) : PT × Int := match pLive s pid && !(pid == 1) with
  | true => ({ s with ps := (setP s.ps pid fun r => { r with zombie := true, status := stOf status }).map fun x => (x.1, orphan pid x.2) }, 0)
  | false => (s, 80)
def pKill (s : PT) (pid sig : Int) : PT × Int := match pLive s pid && !(pid == 1) with
  | true => match sig == 15 with
    | true => ({ s with ps := setP s.ps pid fun r => { r with term := true } }, 0)
    | false => match sig == 9 with
      | true => ({ s with ps := setP s.ps pid fun r => { r with kill := true } }, 0)
      | false => (s, 80)
  | false => (s, 80)
/-- The first child that has ended. -/
def deadOf (s : PT) (parent : Int) : Option (Nat × PR) := s.ps.find? fun x => x.2.zombie && x.2.parent == parent
def pReap (s : PT) (parent : Int) : PT × PR × Int := match deadOf s parent with
  | some x => ({ s with ps := s.ps.filter fun y => !(y.2.pid == x.2.pid) }, x.2, 0)
  | none => (s, PR.zero, 80)

def spawnM (s : PT) (args : List SV) (N : PT → SV → Prop) : Prop := match args with
  | [.int .i64 parent, .str group, .str cmd] => pOk s ∧ ∀ nb, N (pSpawn s parent group cmd nb).1 (.tuple [.int .i64 (pSpawn s parent group cmd nb).2.1, .int .i64 (pSpawn s parent group cmd nb).2.2])
  | _ => False
def forkM (s : PT) (args : List SV) (N : PT → SV → Prop) : Prop := match args with
  | [.int .i64 pid] => pOk s ∧ ∀ nb, N (pFork s pid nb).1 (.tuple [.int .i64 (pFork s pid nb).2.1, .int .i64 (pFork s pid nb).2.2])
  | _ => False
def exitM (s : PT) (args : List SV) (N : PT → SV → Prop) : Prop := match args with
  | [.int .i64 pid, .int .i64 status] => pOk s ∧ N (pExit s pid status).1 (.int .i64 (pExit s pid status).2)
  | _ => False
def killM (s : PT) (args : List SV) (N : PT → SV → Prop) : Prop := match args with
  | [.int .i64 pid, .int .i64 sig] => pOk s ∧ N (pKill s pid sig).1 (.int .i64 (pKill s pid sig).2)
  | _ => False
def signalsM (s : PT) (args : List SV) (N : PT → SV → Prop) : Prop := match args with
  | [.int .i64 pid] => pOk s ∧ N s (.tuple [.bool (pGet s pid).term, .bool (pGet s pid).kill])
  | _ => False
def getM (s : PT) (args : List SV) (N : PT → SV → Prop) : Prop := match args with
  | [.int .i64 pid] => pOk s ∧ N s (.tuple [.agg (encP6 (pGet s pid)), .bool (pHas s pid)])
  | _ => False
def lenM (s : PT) (args : List SV) (N : PT → SV → Prop) : Prop := match args with
  | [] => pOk s ∧ N s (.int .i64 ((s.ps.length : Int) - 1))
  | _ => False
def reapM (s : PT) (args : List SV) (N : PT → SV → Prop) : Prop := match args with
  | [.int .i64 parent] => pOk s ∧ N (pReap s parent).1 (.tuple [.agg (encP6 (pReap s parent).2.1), .int .i64 (pReap s parent).2.2])
  | _ => False
/-- proc.New. -/
def newPC : Ctr := fun args hs N => match args with
  | [.int .i64 room] => ∀ b bm bp, N (snoc hs (pkA b ptE (pNew room bm bp))) (.ptr (lenN hs) b 0)
  | _ => False
def ptL : Tbl := [(74, inl Try.prog [] false Try.f74 200), (28, inl Try.prog [] false Try.f28 200)]
def ptB : Tbl := (75, inl Try.prog ptL true Try.f75 400) :: ptL
end Go.Proofs.Ytihajdkipkfiiaa
