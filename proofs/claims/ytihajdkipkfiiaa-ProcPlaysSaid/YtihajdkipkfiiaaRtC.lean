/- The document's table of processes: what it holds; what its methods do. -/
import Derived.Test.YtihajdkipkfiiaaPrcT
import Derived.Test.YtihajdkipkfiiaaIdx
namespace Go.Proofs.Ytihajdkipkfiiaa
open Go Go.RowKit
set_option linter.unusedVariables false
set_option linter.unusedSimpArgs false
set_option linter.unnecessarySimpa false
set_option maxHeartbeats 0

/-- The document's table: what the processes' table holds, as a row. -/
structure RT where
  (t : PT) (ao : Option Addr) (cap : Nat)
def rL (t : PT) : List PR := t.ps.map (·.2)
def rtE (s : RT) (b : Nat) : List Ent := [⟨.blk b, .cells [.vec 1 s.ao (rL s.t).length s.cap, .int .i64 s.t.room, .int .i64 s.t.last] 152⟩, ⟨.sl s.ao s.cap, .vecL 149 8 encR (rL s.t) PR.zero⟩]
def rAtV (t : PT) (pid : Int) : Int := fIdx (fun r : PR => r.pid == pid) (rL t) 0
def rLivesV (t : PT) (pid : Int) : Int := match pLive t pid with
  | true => rAtV t pid
  | false => -1
/-- A function that tells a place: the table's entries lie open. -/
def rtIdxC (v : PT → Int → Int) : Ctr := fun args hs N => match args with
  | [.ptr l b 0, .int .i64 pid] => ∃ (t : PT) (l1 : Nat) (ao : Option Addr) (cap : Nat), nth hs l = some ⟨.blk b, .cells [.vec l1 ao (rL t).length cap, .int .i64 t.room, .int .i64 t.last] 152⟩ ∧ nth hs l1 = some ⟨.sl ao cap, .vecL 149 8 encR (rL t) PR.zero⟩ ∧ (Nat.beq l l1 = false ∧ pOk t) ∧ N hs (.int .i64 (v t pid))
  | _ => False
def rtSpawnC : Ctr := fun args hs N => match args with
  | [.ptr l b 0, .int .i64 pid, .str g, .str c] => ∃ (t : PT) (l1 : Nat) (ao : Option Addr) (cap : Nat), nth hs l = some ⟨.blk b, .cells [.vec l1 ao (rL t).length cap, .int .i64 t.room, .int .i64 t.last] 152⟩ ∧ nth hs l1 = some ⟨.sl ao cap, .vecL 149 8 encR (rL t) PR.zero⟩ ∧ (Nat.beq l l1 = false ∧ pOk t) ∧
      ∃ nb, ∀ ao' cap', N (setN (setN hs l ⟨.blk b, .cells [.vec l1 ao' (rL (pSpawn t pid g c nb).1).length cap', .int .i64 (pSpawn t pid g c nb).1.room, .int .i64 (pSpawn t pid g c nb).1.last] 152⟩) l1 ⟨.sl ao' cap', .vecL 149 8 encR (rL (pSpawn t pid g c nb).1) PR.zero⟩) (.tuple [.int .i64 (pSpawn t pid g c nb).2.1, .int .i64 (pSpawn t pid g c nb).2.2])
  | _ => False
def raSpawnM (s : RT) (args : List SV) (N : RT → SV → Prop) : Prop := match args with
  | [.int .i64 parent, .str group, .str cmd] => pOk s.t ∧ ∃ nb, ∀ ao cap, N ⟨(pSpawn s.t parent group cmd nb).1, ao, cap⟩ (.tuple [.int .i64 (pSpawn s.t parent group cmd nb).2.1, .int .i64 (pSpawn s.t parent group cmd nb).2.2])
  | _ => False
def raForkM (s : RT) (args : List SV) (N : RT → SV → Prop) : Prop := match args with
  | [.int .i64 pid] => pOk s.t ∧ ∃ nb, ∀ ao cap, N ⟨(pFork s.t pid nb).1, ao, cap⟩ (.tuple [.int .i64 (pFork s.t pid nb).2.1, .int .i64 (pFork s.t pid nb).2.2])
  | _ => False
def raExitM (s : RT) (args : List SV) (N : RT → SV → Prop) : Prop := match args with
  | [.int .i64 pid, .int .i64 status] => pOk s.t ∧ N ⟨(pExit s.t pid status).1, s.ao, s.cap⟩ (.int .i64 (pExit s.t pid status).2)
  | _ => False
def raKillM (s : RT) (args : List SV) (N : RT → SV → Prop) : Prop := match args with
  | [.int .i64 pid, .int .i64 sig] => pOk s.t ∧ N ⟨(pKill s.t pid sig).1, s.ao, s.cap⟩ (.int .i64 (pKill s.t pid sig).2)
  | _ => False
def raSignalsM (s : RT) (args : List SV) (N : RT → SV → Prop) : Prop := match args with
  | [.int .i64 pid] => pOk s.t ∧ N s (.tuple [.bool (pGet s.t pid).term, .bool (pGet s.t pid).kill])
  | _ => False
def raGetM (s : RT) (args : List SV) (N : RT → SV → Prop) : Prop := match args with
  | [.int .i64 pid] => pOk s.t ∧ N s (.tuple [.agg (encP6 (pGet s.t pid)), .bool (pHas s.t pid)])
  | _ => False
def raLenM (s : RT) (args : List SV) (N : RT → SV → Prop) : Prop := match args with
  | [] => pOk s.t ∧ N s (.int .i64 ((s.t.ps.length : Int) - 1))
  | _ => False
def raReapM (s : RT) (args : List SV) (N : RT → SV → Prop) : Prop := match args with
  | [.int .i64 parent] => pOk s.t ∧ ∀ ao cap, N ⟨(pReap s.t parent).1, ao, cap⟩ (.tuple [.agg (encP6 (pReap s.t parent).2.1), .int .i64 (pReap s.t parent).2.2])
  | _ => False
def rNewC : Ctr := fun args hs N => match args with
  | [.int .i64 room] => ∃ bm bp, ∀ b ao cap, N (snoc hs (pkA b rtE ⟨pNew room bm bp, ao, cap⟩)) (.ptr (lenN hs) b 0)
  | _ => False
/-- All: the processes, in order. -/
def rAllC : Ctr := fun args hs N => match args with
  | [.ptr l b 0] => match nth hs l with
    | some ⟨.blk b', .adt (σ := σ') p s⟩ => b' = b ∧ ∃ h : σ' = RT, AdtIs p rtE ∧ pOk (cast h s).t ∧
        ∀ ao cap, N (snoc hs ⟨.sl ao cap, .vecL 45 6 encP6 (rL (cast h s).t) PR.zero⟩) (.vec (lenN hs) ao (rL (cast h s).t).length cap)
    | _ => False
  | _ => False
/-- reveillehelp.Procs, where both rows are the same. -/
def procsC : Ctr := fun args hs N => match args with
  | [.vec l ao n cap, .vec l' ao' n' cap'] => ∃ xs : List PR, nth hs l = some ⟨.sl ao cap, .vecL 45 6 encP6 xs PR.zero⟩ ∧ nth hs l' = some ⟨.sl ao' cap', .vecL 45 6 encP6 xs PR.zero⟩ ∧ (Nat.beq l l' = false ∧ n = xs.length ∧ n' = xs.length ∧ xs.length ≤ 1000000) ∧ N hs (.bool true)
  | _ => False
def rtL : Tbl := [(85, rtIdxC rAtV)]
def rtLv : Tbl := (84, rtIdxC rLivesV) :: rtL
def rtSp : Tbl := (38, rtSpawnC) :: rtLv
def rtT : Tbl := [(37, rNewC), (38, adtC rtE raSpawnM), (39, adtC rtE raForkM), (40, adtC rtE raExitM), (42, adtC rtE raKillM), (46, adtC rtE raSignalsM), (44, adtC rtE raGetM), (47, adtC rtE raLenM), (43, adtC rtE raReapM), (49, rAllC), (48, procsC)]
end Go.Proofs.Ytihajdkipkfiiaa
