/- track.Track: what it holds; what its methods do. -/
import Derived.Test.YtihajdkipkfiiaaGrpC
import Derived.Test.YtihajdkipkfiiaaSrt
namespace Go.Proofs.Ytihajdkipkfiiaa
open Go Go.RowKit
set_option linter.unusedVariables false
set_option linter.unusedSimpArgs false
set_option linter.unnecessarySimpa false
set_option maxHeartbeats 0

/-- Tracks: units by process, processes by unit. -/
structure Trk where
  (bo bp : Nat) (of : List (Key × ByteArray)) (ps : List (Key × GSet))
def encT (x : GSet) : SV := .map 3 x.1
def trkE (s : Trk) (b : Nat) : List Ent := [⟨.blk b, .cells [.map 1 s.bo, .map 2 s.bp] 140⟩, ⟨.blk s.bo, .mapL (some .i64) encO s.of⟩, ⟨.blk s.bp, .mapL none encT s.ps⟩, pk 0 (s.ps.map setE)]
def tGone (s : Trk) (pid : Int) : Trk × ByteArray × Int := match mget s.of (.i .i64 pid) with
  | none => (s, ⟨#[]⟩, 190)
  | some n => match mget s.ps (.s n) with
    | none => (s, n, 0)
    | some x => match (mdel x.2 (.i .i64 pid)).length == 0 with
      | true => ({ s with of := mdel s.of (.i .i64 pid), ps := mdel s.ps (.s n) }, n, 0)
      | false => ({ s with of := mdel s.of (.i .i64 pid), ps := mset s.ps (.s n) (x.1, mdel x.2 (.i .i64 pid)) }, n, 0)
/-- A process of no unit is put to one. -/
def tPut (s : Trk) (unit : ByteArray) (pid : Int) (nb : Nat) : Trk := match mget s.ps (.s unit) with
  | none => { s with of := mset s.of (.i .i64 pid) unit, ps := mset s.ps (.s unit) (nb, [(.i .i64 pid, ())]) }
  | some x => { s with of := mset s.of (.i .i64 pid) unit, ps := mset s.ps (.s unit) (x.1, mset x.2 (.i .i64 pid) ()) }
def tAdd (s : Trk) (unit : ByteArray) (pid : Int) (nb : Nat) : Trk × Int := match (mget s.of (.i .i64 pid)).isSome || sEq unit ⟨#[]⟩ || decide (pid < 2) with
  | true => (s, 190)
  | false => (tPut s unit pid nb, 0)
def tFork (s : Trk) (parent child : Int) (nb : Nat) : Trk × Int := match mget s.of (.i .i64 parent) with
  | none => (s, 190)
  | some n => tAdd s n child nb
/-- What is noted of a process's unit stands there. -/
def tOk (s : Trk) (pid : Int) : Prop := ∀ n, mget s.of (.i .i64 pid) = some n → ∃ x, mget s.ps (.s n) = some x
def tgoneM (s : Trk) (args : List SV) (N : Trk → SV → Prop) : Prop := match args with
  | [.int .i64 pid] => tOk s pid ∧ N (tGone s pid).1 (.tuple [.str (tGone s pid).2.1, .int .i64 (tGone s pid).2.2])
  | _ => False
def tputM (s : Trk) (args : List SV) (N : Trk → SV → Prop) : Prop := match args with
  | [.str unit, .int .i64 pid] => mget s.of (.i .i64 pid) = none ∧ ∀ nb, N (tPut s unit pid nb) (.tuple [])
  | _ => False
def taddM (s : Trk) (args : List SV) (N : Trk → SV → Prop) : Prop := match args with
  | [.str unit, .int .i64 pid] => ∀ nb, N (tAdd s unit pid nb).1 (.int .i64 (tAdd s unit pid nb).2)
  | _ => False
def tforkM (s : Trk) (args : List SV) (N : Trk → SV → Prop) : Prop := match args with
  | [.int .i64 parent, .int .i64 child] => ∀ nb, N (tFork s parent child nb).1 (.int .i64 (tFork s parent child nb).2)
  | _ => False
def tunitM (s : Trk) (args : List SV) (N : Trk → SV → Prop) : Prop := match args with
  | [.int .i64 pid] => N s (.tuple [.str ((mget s.of (.i .i64 pid)).getD ⟨#[]⟩), .bool (mget s.of (.i .i64 pid)).isSome])
  | _ => False
def newTC : Ctr := fun args hs N => match args with
  | [] => ∀ b bo bp, N (snoc hs (pkA b trkE ⟨bo, bp, [], []⟩)) (.ptr (lenN hs) b 0)
  | _ => False
/-- A unit's processes, rising. -/
def pidsL (s : Trk) (unit : ByteArray) : List Int := match mget s.ps (.s unit) with
  | some x => sortI x.2
  | none => []
def pidsOk (s : Trk) (unit : ByteArray) : Prop := ∀ x, mget s.ps (.s unit) = some x → wfI x.2
/-- Pids: a function over a row of its own. -/
def pidsC : Ctr := fun args hs N => match args with
  | [.ptr l b 0, .str unit] => match nth hs l with
    | some ⟨.blk b', .adt (σ := σ') p s⟩ => b' = b ∧ ∃ h : σ' = Trk, AdtIs p trkE ∧ pidsOk (cast h s) unit ∧
        ∀ ao cap bx, N (snoc (snoc hs ⟨.sl ao cap, .vecL 3 1 encI1 (pidsL (cast h s) unit) 0⟩) ⟨.blk bx, .cells [.vec (lenN hs) ao (pidsL (cast h s) unit).length cap] 32⟩) (.func (.func 99) [] [.ptr (lenN hs + 1) bx 0])
    | _ => False
  | _ => False
/-- slices.Sorted at what maps.Keys handed back; the map may be none. -/
def srtNC (fI T : Nat) : Ctr := fun args hs N => match args with
  | [.func (.func f) [] [.ptr lb b 0]] => f = fI ∧ match nth hs lb with
    | some ⟨.blk b', .cells [.map lm rm] _⟩ => match nth hs lm with
      | some ⟨.blk rm', .mapL (β := β) kd enc es⟩ => (b' = b ∧ rm' = rm ∧ kd = some .i64 ∧ wfI es) ∧ ∀ ao cap, N (snoc hs ⟨.sl ao cap, .vecL T 1 encI1 (sortI es) 0⟩) (.vec (lenN hs) ao (sortI es).length cap)
      | _ => False
    | some ⟨.blk b', .cells [.raw (.map none)] _⟩ => b' = b ∧ ∀ ao cap, N (snoc hs ⟨.sl ao cap, .vecL T 1 encI1 [] 0⟩) (.vec (lenN hs) ao 0 cap)
    | _ => False
  | _ => False
def tkT0 : Tbl := [(81, inl Try.prog [] true Try.f81 100), (80, srtNC 101 3), (79, inl Try.prog [] true Try.f79 100)]
end Go.Proofs.Ytihajdkipkfiiaa
