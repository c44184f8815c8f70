/- Groups (cgroup.Groups): what they hold; what their methods do. -/
import Derived.Test.YtihajdkipkfiiaaAdt
import Derived.Test.YtihajdkipkfiiaaTab
namespace Go.Proofs.Ytihajdkipkfiiaa
open Go Go.RowKit
set_option linter.unusedVariables false
set_option linter.unusedSimpArgs false

/-- The first place from i on at which p holds, or -1. -/
def idxFrom {α : Type} (p : α → Bool) : List α → Int → Int
  | [], _ => -1
  | x :: l, i => match p x with
    | true => i
    | false => idxFrom p l (i + 1)
def encS (x : ByteArray) : List SV := [.str x]
/-- slices.Index at texts. -/
def idxSC (T : TypeId) : Ctr := fun args hs N => match args with
  | [.vec l ao n cap, .str v] => ∃ xs : List ByteArray, nth hs l = some ⟨.sl ao cap, .vecL T 1 encS xs ByteArray.empty⟩ ∧ n = xs.length ∧ xs.length ≤ 1000000000 ∧ N hs (.int .i64 (idxFrom (sEq v) xs 0))
  | _ => False
/-- slices.DeleteFunc at texts, with a closure that asks for one text. -/
def delSC (T : TypeId) (g : FuncId) : Ctr := fun args hs N => match args with
  | [.vec l ao n cap, .func (.func f) [] [.ptr lb b 0]] => f = g ∧ ∃ (xs : List ByteArray) (nm : ByteArray), nth hs l = some ⟨.sl ao cap, .vecL T 1 encS xs ByteArray.empty⟩ ∧ nth hs lb = some ⟨.blk b, .cells [.str nm] T⟩ ∧ (Nat.beq l lb = false ∧ n = xs.length ∧ xs.length ≤ 1000000000) ∧
      N (setN hs l ⟨.sl ao cap, .vecL T 1 encS (xs.filter fun x => !sEq x nm) ByteArray.empty⟩) (.vec l ao (xs.filter fun x => !sEq x nm).length cap)
  | _ => False

abbrev GSet := Nat × List (Key × Unit)
structure Grp where
  (bg bo : Nat) (ao : Option Addr) (cap : Nat) (gs : List (Key × GSet)) (of : List (Key × ByteArray)) (notes : List ByteArray)
def encG (x : GSet) : SV := .map 4 x.1
def encU (_ : Unit) : SV := .agg []
def encO (x : ByteArray) : SV := .str x
def setE (e : Key × GSet) : Ent := ⟨.blk e.2.1, .mapL (some .i64) encU e.2.2⟩
def grpE (s : Grp) (b : Nat) : List Ent := [⟨.blk b, .cells [.map 1 s.bg, .map 2 s.bo, .vec 3 s.ao s.notes.length s.cap] 118⟩, ⟨.blk s.bg, .mapL none encG s.gs⟩, ⟨.blk s.bo, .mapL (some .i64) encO s.of⟩, ⟨.sl s.ao s.cap, .vecL 9 1 encS s.notes ByteArray.empty⟩, pk 0 (s.gs.map setE)]

def gMake (s : Grp) (name : ByteArray) (nb : Nat) : Grp × Int := match sEq name ⟨#[]⟩ with
  | true => (s, 90)
  | false => match mget s.gs (.s name) with
    | some _ => (s, 91)
    | none => ({ s with gs := mset s.gs (.s name) (nb, []) }, 0)
def gGone (s : Grp) (pid : Int) (ao : Option Addr) (cap : Nat) : Grp × Bool := match mget s.of (.i .i64 pid) with
  | none => (s, false)
  | some n => match mget s.gs (.s n) with
    | none => (s, false)
    | some x => match (mdel x.2 (.i .i64 pid)).length == 0 && !decide (idxFrom (sEq n) s.notes 0 ≥ 0) with
      | true => ({ s with of := mdel s.of (.i .i64 pid), gs := mset s.gs (.s n) (x.1, mdel x.2 (.i .i64 pid)), notes := s.notes ++ [n], ao := ao, cap := cap }, true)
      | false => ({ s with of := mdel s.of (.i .i64 pid), gs := mset s.gs (.s n) (x.1, mdel x.2 (.i .i64 pid)) }, true)
def gPut (s : Grp) (pid : Int) (name : ByteArray) (ao : Option Addr) (cap : Nat) : Grp × Int := match mget s.gs (.s name), decide (pid < 2) with
  | some x, false => match mget x.2 (.i .i64 pid) with
    | some _ => (s, 0)
    | none => match mget (gGone s pid ao cap).1.gs (.s name) with
      | some y => ({ (gGone s pid ao cap).1 with gs := mset (gGone s pid ao cap).1.gs (.s name) (y.1, mset y.2 (.i .i64 pid) ()), of := mset (gGone s pid ao cap).1.of (.i .i64 pid) name }, 0)
      | none => (s, 90)
  | _, _ => (s, 90)
def gRemove (s : Grp) (name : ByteArray) : Grp × Int := match mget s.gs (.s name) with
  | none => (s, 90)
  | some x => match decide ((x.2.length : Int) > 0) with
    | true => (s, 91)
    | false => ({ s with gs := mdel s.gs (.s name), notes := s.notes.filter fun x => !sEq x name }, 0)
/-- The first group of a list that is there and empty (or not there at all). -/
def firstEmpty (gs : List (Key × GSet)) : List ByteArray → List ByteArray × Option ByteArray
  | [] => ([], none)
  | n :: l => match (match mget gs (.s n) with | some x => x.2.length | none => 0) with
    | 0 => (l, some n)
    | _ + 1 => firstEmpty gs l
def gEmptied (s : Grp) (ao : Option Addr) (cap : Nat) : Grp × Option ByteArray := ({ s with notes := (firstEmpty s.gs s.notes).1, ao := ao, cap := cap }, (firstEmpty s.gs s.notes).2)
/-- What is noted of a process's group stands there. -/
def gOk (s : Grp) (pid : Int) : Prop := s.notes.length ≤ 100000000 ∧ ∀ n, mget s.of (.i .i64 pid) = some n → ∃ x, mget s.gs (.s n) = some x
def grpC := adtC grpE
def makeM (s : Grp) (args : List SV) (N : Grp → SV → Prop) : Prop := match args with
  | [.str name] => ∀ nb, N (gMake s name nb).1 (.int .i64 (gMake s name nb).2)
  | _ => False
def goneM (s : Grp) (args : List SV) (N : Grp → SV → Prop) : Prop := match args with
  | [.int .i64 pid] => gOk s pid ∧ ∀ ao cap, N (gGone s pid ao cap).1 (.bool (gGone s pid ao cap).2)
  | _ => False
def putM (s : Grp) (args : List SV) (N : Grp → SV → Prop) : Prop := match args with
  | [.int .i64 pid, .str name] => (gOk s pid ∧ keysOk s.gs) ∧ ∀ ao cap, N (gPut s pid name ao cap).1 (.int .i64 (gPut s pid name ao cap).2)
  | _ => False
def removeM (s : Grp) (args : List SV) (N : Grp → SV → Prop) : Prop := match args with
  | [.str name] => s.notes.length ≤ 100000000 ∧ N (gRemove s name).1 (.int .i64 (gRemove s name).2)
  | _ => False
def emptiedM (s : Grp) (args : List SV) (N : Grp → SV → Prop) : Prop := match args with
  | [] => ∀ ao cap, N (gEmptied s ao cap).1 (.tuple [.str ((gEmptied s ao cap).2.getD ⟨#[]⟩), .bool (gEmptied s ao cap).2.isSome])
  | _ => False
/-- cgroup.New. -/
def newGC : Ctr := fun args hs N => match args with
  | [] => ∀ b bg bo, N (snoc hs (pkA b grpE ⟨bg, bo, none, 0, [], [], []⟩)) (.ptr (lenN hs) b 0)
  | _ => False

def gT1 : Tbl := [(95, idxSC 9)]
def gT2 : Tbl := (70, inl Try.prog gT1 false Try.f70 100) :: (71, inl Try.prog [] false Try.f71 100) :: (72, inl Try.prog [] false Try.f72 100) :: gT1
/-- slices.IndexFunc at texts, with the closure that asks for one text. -/
def idxFC (T : TypeId) (g : FuncId) : Ctr := fun args hs N => match args with
  | [.vec l ao n cap, .func (.func f) [] [.ptr lb b 0]] => f = g ∧ ∃ (xs : List ByteArray) (nm : ByteArray), nth hs l = some ⟨.sl ao cap, .vecL T 1 encS xs ByteArray.empty⟩ ∧ nth hs lb = some ⟨.blk b, .cells [.str nm] T⟩ ∧ (Nat.beq l lb = false ∧ n = xs.length ∧ xs.length ≤ 1000000000) ∧
      N hs (.int .i64 (idxFrom (fun x => sEq x nm) xs 0))
  | _ => False
def gT0 : Tbl := [(91, inl Try.prog [] false Try.f91 100)]
def gT0d : Tbl := (108, idxFC 9 91) :: gT0
def gT3 : Tbl := [(90, delSC 9 91)]
end Go.Proofs.Ytihajdkipkfiiaa
