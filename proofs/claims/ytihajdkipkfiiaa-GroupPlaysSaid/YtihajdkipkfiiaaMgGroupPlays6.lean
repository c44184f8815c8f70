import Derived.Test.YtihajdkipkfiiaaProg
import Derived.Test.YtihajdkipkfiiaaMgGroupPlays4
import Derived.Test.YtihajdkipkfiiaaMgGroupPlays5
import Derived.Shelf.SlIterI.Nil
import Derived.Shelf.SlIter.Nil
import Derived.Shelf.SortM.Plain
import Derived.Shelf.SortM.SortNone
import Derived.Ground.GgzProg
import Derived.Ground.SlgmProg
import Derived.Shelf.SlGeneric
/- YtihajdkipkfiiaaTab -/
/- Closed facts on the program's types (printed by wip/tools/tab.py). -/
namespace Go.Proofs.Ytihajdkipkfiiaa
open Go
theorem tlay_3 : tlay Try.prog 3 = some (false, 1) := by kernel_rfl
theorem tlay_4 : tlay Try.prog 4 = some (false, 1) := by kernel_rfl
theorem tlay_5 : tlay Try.prog 5 = some (false, 1) := by kernel_rfl
theorem tlay_9 : tlay Try.prog 9 = some (false, 1) := by kernel_rfl
theorem tlay_24 : tlay Try.prog 24 = some (true, 4) := by kernel_rfl
theorem tlay_25 : tlay Try.prog 25 = some (false, 1) := by kernel_rfl
theorem tlay_27 : tlay Try.prog 27 = some (false, 1) := by kernel_rfl
theorem tlay_32 : tlay Try.prog 32 = some (false, 1) := by kernel_rfl
theorem tlay_38 : tlay Try.prog 38 = some (false, 1) := by kernel_rfl
theorem tlay_45 : tlay Try.prog 45 = some (true, 6) := by kernel_rfl
theorem tlay_50 : tlay Try.prog 50 = some (false, 1) := by kernel_rfl
theorem tlay_55 : tlay Try.prog 55 = some (false, 1) := by kernel_rfl
theorem tlay_68 : tlay Try.prog 68 = some (true, 5) := by kernel_rfl
theorem tlay_84 : tlay Try.prog 84 = some (true, 5) := by kernel_rfl
theorem tlay_88 : tlay Try.prog 88 = some (true, 2) := by kernel_rfl
theorem tlay_93 : tlay Try.prog 93 = some (false, 1) := by kernel_rfl
theorem tlay_100 : tlay Try.prog 100 = some (false, 1) := by kernel_rfl
theorem tlay_101 : tlay Try.prog 101 = some (false, 1) := by kernel_rfl
theorem tlay_105 : tlay Try.prog 105 = some (true, 3) := by kernel_rfl
theorem tlay_112 : tlay Try.prog 112 = some (true, 2) := by kernel_rfl
theorem tlay_113 : tlay Try.prog 113 = some (false, 1) := by kernel_rfl
theorem tlay_115 : tlay Try.prog 115 = some (false, 1) := by kernel_rfl
theorem tlay_116 : tlay Try.prog 116 = some (false, 1) := by kernel_rfl
theorem tlay_119 : tlay Try.prog 119 = some (false, 1) := by kernel_rfl
theorem tlay_120 : tlay Try.prog 120 = some (false, 1) := by kernel_rfl
theorem tlay_128 : tlay Try.prog 128 = some (false, 1) := by kernel_rfl
theorem tlay_138 : tlay Try.prog 138 = some (false, 1) := by kernel_rfl
theorem tlay_145 : tlay Try.prog 145 = some (true, 0) := by kernel_rfl
theorem tlay_150 : tlay Try.prog 150 = some (false, 1) := by kernel_rfl
theorem tlay_194 : tlay Try.prog 194 = some (false, 1) := by kernel_rfl
theorem tslice_22 : tslice Try.prog 22 = some (5, 1) := by kernel_rfl
theorem tslice_32 : tslice Try.prog 32 = some (3, 1) := by kernel_rfl
theorem tslice_50 : tslice Try.prog 50 = some (45, 6) := by kernel_rfl
theorem tslice_64 : tslice Try.prog 64 = some (68, 5) := by kernel_rfl
theorem tslice_81 : tslice Try.prog 81 = some (84, 5) := by kernel_rfl
theorem tslice_82 : tslice Try.prog 82 = some (88, 2) := by kernel_rfl
theorem tslice_93 : tslice Try.prog 93 = some (9, 1) := by kernel_rfl
theorem tslice_99 : tslice Try.prog 99 = some (105, 3) := by kernel_rfl
theorem tslice_101 : tslice Try.prog 101 = some (112, 2) := by kernel_rfl
theorem tslice_150 : tslice Try.prog 150 = some (149, 8) := by kernel_rfl
theorem tplaces_45 : tplaces Try.prog 45 = some [(0, 1), (1, 1), (2, 1), (3, 1), (4, 1), (5, 1)] := by kernel_rfl
theorem tplaces_88 : tplaces Try.prog 88 = some [(0, 1), (1, 1)] := by kernel_rfl
theorem tplaces_103 : tplaces Try.prog 103 = some [(0, 1), (1, 1)] := by kernel_rfl
theorem tplaces_112 : tplaces Try.prog 112 = some [(0, 1), (1, 1)] := by kernel_rfl
theorem tplaces_118 : tplaces Try.prog 118 = some [(0, 1), (1, 1), (2, 1)] := by kernel_rfl
theorem tplaces_127 : tplaces Try.prog 127 = some [(0, 6), (6, 1), (7, 1)] := by kernel_rfl
theorem tplaces_130 : tplaces Try.prog 130 = some [(0, 1), (1, 1), (2, 1)] := by kernel_rfl
theorem tplaces_140 : tplaces Try.prog 140 = some [(0, 1), (1, 1)] := by kernel_rfl
theorem tplaces_145 : tplaces Try.prog 145 = some [] := by kernel_rfl
theorem tplaces_149 : tplaces Try.prog 149 = some [(0, 6), (6, 1), (7, 1)] := by kernel_rfl
theorem tplaces_152 : tplaces Try.prog 152 = some [(0, 1), (1, 1), (2, 1)] := by kernel_rfl
theorem tzero_3 : tzero Try.prog 3 = some [.int .i64 0] := by kernel_rfl
theorem tzero_4 : tzero Try.prog 4 = some [.bool false] := by kernel_rfl
theorem tzero_5 : tzero Try.prog 5 = some [.int .u8 0] := by kernel_rfl
theorem tzero_9 : tzero Try.prog 9 = some [.str ⟨#[]⟩] := by kernel_rfl
theorem tzero_24 : tzero Try.prog 24 = some [.str ⟨#[]⟩, .str ⟨#[]⟩, .str ⟨#[]⟩, .str ⟨#[]⟩] := by kernel_rfl
theorem tzero_27 : tzero Try.prog 27 = some [.int .i64 0] := by kernel_rfl
theorem tzero_29 : tzero Try.prog 29 = some [.int .i64 0, .int .i64 0, .int .i64 0, .int .i64 0, .int .i64 0, .int .i64 0, .int .i64 0, .int .i64 0, .int .i64 0, .int .i64 0] := by kernel_rfl
theorem tzero_32 : tzero Try.prog 32 = some [.raw (.slice none 0 0)] := by kernel_rfl
theorem tzero_45 : tzero Try.prog 45 = some [.int .i64 0, .int .i64 0, .str ⟨#[]⟩, .bool false, .int .i64 0, .str ⟨#[]⟩] := by kernel_rfl
theorem tzero_50 : tzero Try.prog 50 = some [.raw (.slice none 0 0)] := by kernel_rfl
theorem tzero_68 : tzero Try.prog 68 = some [.int .i64 0, .int .i64 0, .int .i64 0, .str ⟨#[]⟩, .str ⟨#[]⟩] := by kernel_rfl
theorem tzero_84 : tzero Try.prog 84 = some [.int .i64 0, .int .i64 0, .int .i64 0, .str ⟨#[]⟩, .raw (.slice none 0 0)] := by kernel_rfl
theorem tzero_88 : tzero Try.prog 88 = some [.int .i64 0, .str ⟨#[]⟩] := by kernel_rfl
theorem tzero_93 : tzero Try.prog 93 = some [.raw (.slice none 0 0)] := by kernel_rfl
theorem tzero_100 : tzero Try.prog 100 = some [.raw (.pointer none)] := by kernel_rfl
theorem tzero_103 : tzero Try.prog 103 = some [.raw (.slice none 0 0), .raw (.slice none 0 0)] := by kernel_rfl
theorem tzero_105 : tzero Try.prog 105 = some [.int .i64 0, .int .i64 0, .str ⟨#[]⟩] := by kernel_rfl
theorem tzero_112 : tzero Try.prog 112 = some [.str ⟨#[]⟩, .raw (.slice none 0 0)] := by kernel_rfl
theorem tzero_118 : tzero Try.prog 118 = some [.raw (.map none), .raw (.map none), .raw (.slice none 0 0)] := by kernel_rfl
theorem tzero_127 : tzero Try.prog 127 = some [.int .i64 0, .int .i64 0, .str ⟨#[]⟩, .bool false, .int .i64 0, .str ⟨#[]⟩, .bool false, .bool false] := by kernel_rfl
theorem tzero_130 : tzero Try.prog 130 = some [.raw (.map none), .int .i64 0, .int .i64 0] := by kernel_rfl
theorem tzero_140 : tzero Try.prog 140 = some [.raw (.map none), .raw (.map none)] := by kernel_rfl
theorem tzero_145 : tzero Try.prog 145 = some [] := by kernel_rfl
theorem tzero_149 : tzero Try.prog 149 = some [.int .i64 0, .int .i64 0, .str ⟨#[]⟩, .bool false, .int .i64 0, .str ⟨#[]⟩, .bool false, .bool false] := by kernel_rfl
theorem tzero_152 : tzero Try.prog 152 = some [.raw (.slice none 0 0), .int .i64 0, .int .i64 0] := by kernel_rfl
theorem tzero_194 : tzero Try.prog 194 = some [.int .u64 0] := by kernel_rfl
theorem tfield_45_0 : tfield Try.prog 45 0 = some 0 := by kernel_rfl
theorem tfield_45_1 : tfield Try.prog 45 1 = some 1 := by kernel_rfl
theorem tfield_45_2 : tfield Try.prog 45 2 = some 2 := by kernel_rfl
theorem tfield_45_3 : tfield Try.prog 45 3 = some 3 := by kernel_rfl
theorem tfield_45_4 : tfield Try.prog 45 4 = some 4 := by kernel_rfl
theorem tfield_45_5 : tfield Try.prog 45 5 = some 5 := by kernel_rfl
theorem tfield_68_0 : tfield Try.prog 68 0 = some 0 := by kernel_rfl
theorem tfield_68_1 : tfield Try.prog 68 1 = some 1 := by kernel_rfl
theorem tfield_68_2 : tfield Try.prog 68 2 = some 2 := by kernel_rfl
theorem tfield_68_3 : tfield Try.prog 68 3 = some 3 := by kernel_rfl
theorem tfield_68_4 : tfield Try.prog 68 4 = some 4 := by kernel_rfl
theorem tfield_84_0 : tfield Try.prog 84 0 = some 0 := by kernel_rfl
theorem tfield_84_1 : tfield Try.prog 84 1 = some 1 := by kernel_rfl
theorem tfield_84_2 : tfield Try.prog 84 2 = some 2 := by kernel_rfl
theorem tfield_84_3 : tfield Try.prog 84 3 = some 3 := by kernel_rfl
theorem tfield_84_4 : tfield Try.prog 84 4 = some 4 := by kernel_rfl
theorem tfield_88_0 : tfield Try.prog 88 0 = some 0 := by kernel_rfl
theorem tfield_88_1 : tfield Try.prog 88 1 = some 1 := by kernel_rfl
theorem tfield_103_0 : tfield Try.prog 103 0 = some 0 := by kernel_rfl
theorem tfield_103_1 : tfield Try.prog 103 1 = some 1 := by kernel_rfl
theorem tfield_105_0 : tfield Try.prog 105 0 = some 0 := by kernel_rfl
theorem tfield_105_1 : tfield Try.prog 105 1 = some 1 := by kernel_rfl
theorem tfield_105_2 : tfield Try.prog 105 2 = some 2 := by kernel_rfl
theorem tfield_112_0 : tfield Try.prog 112 0 = some 0 := by kernel_rfl
theorem tfield_112_1 : tfield Try.prog 112 1 = some 1 := by kernel_rfl
theorem tfield_118_0 : tfield Try.prog 118 0 = some 0 := by kernel_rfl
theorem tfield_118_1 : tfield Try.prog 118 1 = some 1 := by kernel_rfl
theorem tfield_118_2 : tfield Try.prog 118 2 = some 2 := by kernel_rfl
theorem tfield_127_0 : tfield Try.prog 127 0 = some 0 := by kernel_rfl
theorem tfield_127_1 : tfield Try.prog 127 1 = some 6 := by kernel_rfl
theorem tfield_127_2 : tfield Try.prog 127 2 = some 7 := by kernel_rfl
theorem tfield_130_0 : tfield Try.prog 130 0 = some 0 := by kernel_rfl
theorem tfield_130_1 : tfield Try.prog 130 1 = some 1 := by kernel_rfl
theorem tfield_130_2 : tfield Try.prog 130 2 = some 2 := by kernel_rfl
theorem tfield_140_0 : tfield Try.prog 140 0 = some 0 := by kernel_rfl
theorem tfield_140_1 : tfield Try.prog 140 1 = some 1 := by kernel_rfl
theorem tfield_149_0 : tfield Try.prog 149 0 = some 0 := by kernel_rfl
theorem tfield_149_1 : tfield Try.prog 149 1 = some 6 := by kernel_rfl
theorem tfield_149_2 : tfield Try.prog 149 2 = some 7 := by kernel_rfl
theorem tfield_152_0 : tfield Try.prog 152 0 = some 0 := by kernel_rfl
theorem tfield_152_1 : tfield Try.prog 152 1 = some 1 := by kernel_rfl
theorem tfield_152_2 : tfield Try.prog 152 2 = some 2 := by kernel_rfl
end Go.Proofs.Ytihajdkipkfiiaa

/- YtihajdkipkfiiaaGrpC -/
/- Groups (cgroup.Groups): what they hold; what their methods do. -/
namespace Go.Proofs.Ytihajdkipkfiiaa
open Go Go.RowKit
set_option linter.unusedVariables false
set_option linter.unusedSimpArgs false

/-- The first place from i on at which p holds, or -1. -/
def idxFrom {α : Type} (p : α → Bool) : List α → Int → Int
  | [], _ => -1
  | x :: l, i => match p x with
    | true => i
    | false => idxFrom p l (i + 1)
def encS (x : ByteArray) : List SV := [.str x]
/-- slices.Index at texts. -/
def idxSC (T : TypeId) : Ctr := fun args hs N => match args with
  | [.vec l ao n cap, .str v] => ∃ xs : List ByteArray, nth hs l = some ⟨.sl ao cap, .vecL T 1 encS xs ByteArray.empty⟩ ∧ n = xs.length ∧ xs.length ≤ 1000000000 ∧ N hs (.int .i64 (idxFrom (sEq v) xs 0))
  | _ => False
/-- slices.DeleteFunc at texts, with a closure that asks for one text. -/
def delSC (T : TypeId) (g : FuncId) : Ctr := fun args hs N => match args with
  | [.vec l ao n cap, .func (.func f) [] [.ptr lb b 0]] => f = g ∧ ∃ (xs : List ByteArray) (nm : ByteArray), nth hs l = some ⟨.sl ao cap, .vecL T 1 encS xs ByteArray.empty⟩ ∧ nth hs lb = some ⟨.blk b, .cells [.str nm] T⟩ ∧ (Nat.beq l lb = false ∧ n = xs.length ∧ xs.length ≤ 1000000000) ∧
      N (setN hs l ⟨.sl ao cap, .vecL T 1 encS (xs.filter fun x => !sEq x nm) ByteArray.empty⟩) (.vec l ao (xs.filter fun x => !sEq x nm).length cap)
  | _ => False

abbrev GSet := Nat × List (Key × Unit)
structure Grp where
  (bg bo : Nat) (ao : Option Addr) (cap : Nat) (gs : List (Key × GSet)) (of : List (Key × ByteArray)) (notes : List ByteArray)
def encG (x : GSet) : SV := .map 4 x.1
def encU (_ : Unit) : SV := .agg []
def encO (x : ByteArray) : SV := .str x
def setE (e : Key × GSet) : Ent := ⟨.blk e.2.1, .mapL (some .i64) encU e.2.2⟩
def grpE (s : Grp) (b : Nat) : List Ent := [⟨.blk b, .cells [.map 1 s.bg, .map 2 s.bo, .vec 3 s.ao s.notes.length s.cap] 118⟩, ⟨.blk s.bg, .mapL none encG s.gs⟩, ⟨.blk s.bo, .mapL (some .i64) encO s.of⟩, ⟨.sl s.ao s.cap, .vecL 9 1 encS s.notes ByteArray.empty⟩, pk 0 (s.gs.map setE)]

def gMake (s : Grp) (name : ByteArray) (nb : Nat) : Grp × Int := match sEq name ⟨#[]⟩ with
  | true => (s, 90)
  | false => match mget s.gs (.s name) with
    | some _ => (s, 91)
    | none => ({ s with gs := mset s.gs (.s name) (nb, []) }, 0)
def gGone (s : Grp) (pid : Int) (ao : Option Addr) (cap : Nat) : Grp × Bool := match mget s.of (.i .i64 pid) with
  | none => (s, false)
  | some n => match mget s.gs (.s n) with
    | none => (s, false)
    | some x => match (mdel x.2 (.i .i64 pid)).length == 0 && !decide (idxFrom (sEq n) s.notes 0 ≥ 0) with
      | true => ({ s with of := mdel s.of (.i .i64 pid), gs := mset s.gs (.s n) (x.1, mdel x.2 (.i .i64 pid)), notes := s.notes ++ [n], ao := ao, cap := cap }, true)
      | false => ({ s with of := mdel s.of (.i .i64 pid), gs := mset s.gs (.s n) (x.1, mdel x.2 (.i .i64 pid)) }, true)
def gPut (s : Grp) (pid : Int) (name : ByteArray) (ao : Option Addr) (cap : Nat) : Grp × Int := match mget s.gs (.s name), decide (pid < 2) with
  | some x, false => match mget x.2 (.i .i64 pid) with
    | some _ => (s, 0)
    | none => match mget (gGone s pid ao cap).1.gs (.s name) with
      | some y => ({ (gGone s pid ao cap).1 with gs := mset (gGone s pid ao cap).1.gs (.s name) (y.1, mset y.2 (.i .i64 pid) ()), of := mset (gGone s pid ao cap).1.of (.i .i64 pid) name }, 0)
      | none => (s, 90)
  | _, _ => (s, 90)
def gRemove (s : Grp) (name : ByteArray) : Grp × Int := match mget s.gs (.s name) with
  | none => (s, 90)
  | some x => match decide ((x.2.length : Int) > 0) with
    | true => (s, 91)
    | false => ({ s with gs := mdel s.gs (.s name), notes := s.notes.filter fun x => !sEq x name }, 0)
/-- The first group of a list that is there and empty (or not there at all). -/
def firstEmpty (gs : List (Key × GSet)) : List ByteArray → List ByteArray × Option ByteArray
  | [] => ([], none)
  | n :: l => match (match mget gs (.s n) with | some x => x.2.length | none => 0) with
    | 0 => (l, some n)
    | _ + 1 => firstEmpty gs l
def gEmptied (s : Grp) (ao : Option Addr) (cap : Nat) : Grp × Option ByteArray := ({ s with notes := (firstEmpty s.gs s.notes).1, ao := ao, cap := cap }, (firstEmpty s.gs s.notes).2)
/-- What is noted of a process's group stands there. -/
def gOk (s : Grp) (pid : Int) : Prop := s.notes.length ≤ 100000000 ∧ ∀ n, mget s.of (.i .i64 pid) = some n → ∃ x, mget s.gs (.s n) = some x
def grpC := adtC grpE
def makeM (s : Grp) (args : List SV) (N : Grp → SV → Prop) : Prop := match args with
  | [.str name] => ∀ nb, N (gMake s name nb).1 (.int .i64 (gMake s name nb).2)
  | _ => False
def goneM (s : Grp) (args : List SV) (N : Grp → SV → Prop) : Prop := match args with
  | [.int .i64 pid] => gOk s pid ∧ ∀ ao cap, N (gGone s pid ao cap).1 (.bool (gGone s pid ao cap).2)
  | _ => False
def putM (s : Grp) (args : List SV) (N : Grp → SV → Prop) : Prop := match args with
  | [.int .i64 pid, .str name] => (gOk s pid ∧ keysOk s.gs) ∧ ∀ ao cap, N (gPut s pid name ao cap).1 (.int .i64 (gPut s pid name ao cap).2)
  | _ => False
def removeM (s : Grp) (args : List SV) (N : Grp → SV → Prop) : Prop := match args with
  | [.str name] => s.notes.length ≤ 100000000 ∧ N (gRemove s name).1 (.int .i64 (gRemove s name).2)
  | _ => False
def emptiedM (s : Grp) (args : List SV) (N : Grp → SV → Prop) : Prop := match args with
  | [] => ∀ ao cap, N (gEmptied s ao cap).1 (.tuple [.str ((gEmptied s ao cap).2.getD ⟨#[]⟩), .bool (gEmptied s ao cap).2.isSome])
  | _ => False
/-- cgroup.New. -/
def newGC : Ctr := fun args hs N => match args with
  | [] => ∀ b bg bo, N (snoc hs (pkA b grpE ⟨bg, bo, none, 0, [], [], []⟩)) (.ptr (lenN hs) b 0)
  | _ => False

def gT1 : Tbl := [(95, idxSC 9)]
def gT2 : Tbl := (70, inl Try.prog gT1 false Try.f70 100) :: (71, inl Try.prog [] false Try.f71 100) :: (72, inl Try.prog [] false Try.f72 100) :: gT1
/-- slices.IndexFunc at texts, with the closure that asks for one text. -/
def idxFC (T : TypeId) (g : FuncId) : Ctr := fun args hs N => match args with
  | [.vec l ao n cap, .func (.func f) [] [.ptr lb b 0]] => f = g ∧ ∃ (xs : List ByteArray) (nm : ByteArray), nth hs l = some ⟨.sl ao cap, .vecL T 1 encS xs ByteArray.empty⟩ ∧ nth hs lb = some ⟨.blk b, .cells [.str nm] T⟩ ∧ (Nat.beq l lb = false ∧ n = xs.length ∧ xs.length ≤ 1000000000) ∧
      N hs (.int .i64 (idxFrom (fun x => sEq x nm) xs 0))
  | _ => False
def gT0 : Tbl := [(91, inl Try.prog [] false Try.f91 100)]
def gT0d : Tbl := (108, idxFC 9 91) :: gT0
def gT3 : Tbl := [(90, delSC 9 91)]
end Go.Proofs.Ytihajdkipkfiiaa

/- YtihajdkipkfiiaaLayP -/
/- Layings of the kit's contracts for slices.Sorted and maps.Keys at this program, in plain words. -/
namespace Go.Proofs.Ytihajdkipkfiiaa
open Go.Shelf
def keysP_ren : Go.Shelf.Ren := ⟨fun | 7 => 98 | 10 => 111 | n => n, fun | 23 => 128 | 26 => 3 | 3 => 125 | 28 => 61 | 0 => 0 | 27 => 60 | 33 => 30 | 4 => 4 | n => n, fun | n => n⟩
theorem keysP : Go.Proofs.SlLaysZI.n7 Try.prog keysP_ren := {
  mixed := by kernel_rfl
  f7 := ⟨Try.f98.name, by decide, Try.func98.trans (congrArg some (by kernel_rfl))⟩
  f10 := ⟨Try.f111.name, by decide, Try.func111.trans (congrArg some (by kernel_rfl))⟩
  t0 := Try.underlying0
  a0 := Try.isAgg0
  z0 := Try.sizeOf0
  v0 := Try.zeroValue0
  t4 := Try.underlying4
  a4 := Try.isAgg4
  z4 := Try.sizeOf4
  v4 := Try.zeroValue4
  t23 := Try.underlying128
  a23 := Try.isAgg128
  z23 := Try.sizeOf128
  v23 := Try.zeroValue128
  t26 := Try.underlying3
  a26 := Try.isAgg3
  z26 := Try.sizeOf3
  v26 := Try.zeroValue3
  t27 := Try.underlying60
  a27 := Try.isAgg60
  z27 := Try.sizeOf60
  v27 := Try.zeroValue60
  t28 := Try.underlying61
  a28 := Try.isAgg61
  z28 := Try.sizeOf61
  v28 := Try.zeroValue61
  t33 := Try.underlying30
  a33 := Try.isAgg30
  z33 := Try.sizeOf30
  v33 := Try.zeroValue30 }
def sortedI_ren : Go.Shelf.Ren := ⟨fun | 6 => 80 | 8 => 82 | 9 => 100 | 11 => 102 | 13 => 113 | 12 => 112 | 23 => 126 | 24 => 127 | 14 => 117 | 15 => 118 | 16 => 119 | 17 => 120 | 18 => 121 | 19 => 122 | 20 => 123 | 21 => 124 | 22 => 125 | 25 => 137 | 26 => 138 | 27 => 139 | 28 => 140 | 29 => 141 | 30 => 142 | 31 => 147 | n => n, fun | 26 => 3 | 28 => 61 | 24 => 32 | 0 => 0 | 3 => 3 | 37 => 173 | 48 => 185 | 50 => 187 | 4 => 4 | 40 => 178 | 39 => 177 | 45 => 157 | 5 => 5 | 9 => 9 | 51 => 194 | 55 => 198 | 57 => 202 | 58 => 69 | 33 => 30 | n => n, fun | n => n⟩
theorem sortedI : Go.Proofs.SlLaysZI.n6 Try.prog sortedI_ren := {
  mixed := by kernel_rfl
  f6 := ⟨Try.f80.name, by decide, Try.func80.trans (congrArg some (by kernel_rfl))⟩
  f8 := ⟨Try.f82.name, by decide, Try.func82.trans (congrArg some (by kernel_rfl))⟩
  f11 := ⟨Try.f102.name, by decide, Try.func102.trans (congrArg some (by kernel_rfl))⟩
  t0 := Try.underlying0
  a0 := Try.isAgg0
  z0 := Try.sizeOf0
  v0 := Try.zeroValue0
  t24 := Try.underlying32
  a24 := Try.isAgg32
  z24 := Try.sizeOf32
  v24 := Try.zeroValue32
  t26 := Try.underlying3
  a26 := Try.isAgg3
  z26 := Try.sizeOf3
  v26 := Try.zeroValue3
  t28 := Try.underlying61
  a28 := Try.isAgg61
  z28 := Try.sizeOf61
  v28 := Try.zeroValue61
  i26 := by kernel_rfl }
def sortI_lay_ren : Go.Shelf.Ren := ⟨fun | 5 => 100 | 8 => 113 | 7 => 112 | 19 => 126 | 20 => 127 | 10 => 117 | 11 => 118 | 12 => 119 | 13 => 120 | 14 => 121 | 15 => 122 | 16 => 123 | 17 => 124 | 18 => 125 | 30 => 137 | 31 => 138 | 32 => 139 | 33 => 140 | 34 => 141 | 35 => 142 | 40 => 147 | n => n, fun | 23 => 32 | 25 => 3 | 3 => 3 | 32 => 173 | 22 => 32 | 0 => 0 | 44 => 185 | 46 => 187 | 4 => 4 | 36 => 178 | 35 => 177 | 41 => 157 | 5 => 5 | 9 => 9 | 53 => 194 | 57 => 198 | 63 => 202 | 64 => 69 | n => n, fun | n => n⟩
theorem sortI_lay : Go.Proofs.SlLaysM.n5 Try.prog sortI_lay_ren := {
  mixed := by kernel_rfl
  f5 := ⟨Try.f100.name, by decide, Try.func100.trans (congrArg some (by kernel_rfl))⟩
  f7 := ⟨Try.f112.name, by decide, Try.func112.trans (congrArg some (by kernel_rfl))⟩
  f8 := Try.func113.trans (congrArg some (by kernel_rfl))
  f10 := ⟨Try.f117.name, by decide, Try.func117.trans (congrArg some (by kernel_rfl))⟩
  f11 := ⟨Try.f118.name, by decide, Try.func118.trans (congrArg some (by kernel_rfl))⟩
  f12 := ⟨Try.f119.name, by decide, Try.func119.trans (congrArg some (by kernel_rfl))⟩
  f13 := ⟨Try.f120.name, by decide, Try.func120.trans (congrArg some (by kernel_rfl))⟩
  f14 := ⟨Try.f121.name, by decide, Try.func121.trans (congrArg some (by kernel_rfl))⟩
  f15 := ⟨Try.f122.name, by decide, Try.func122.trans (congrArg some (by kernel_rfl))⟩
  f16 := ⟨Try.f123.name, by decide, Try.func123.trans (congrArg some (by kernel_rfl))⟩
  f17 := ⟨Try.f124.name, by decide, Try.func124.trans (congrArg some (by kernel_rfl))⟩
  f18 := ⟨Try.f125.name, by decide, Try.func125.trans (congrArg some (by kernel_rfl))⟩
  f19 := Try.func126.trans (congrArg some (by kernel_rfl))
  f20 := Try.func127.trans (congrArg some (by kernel_rfl))
  f30 := ⟨Try.f137.name, by decide, Try.func137.trans (congrArg some (by kernel_rfl))⟩
  f31 := Try.func138.trans (congrArg some (by kernel_rfl))
  f32 := Try.func139.trans (congrArg some (by kernel_rfl))
  f33 := ⟨Try.f140.name, by decide, Try.func140.trans (congrArg some (by kernel_rfl))⟩
  f34 := ⟨Try.f141.name, by decide, Try.func141.trans (congrArg some (by kernel_rfl))⟩
  f35 := ⟨Try.f142.name, by decide, Try.func142.trans (congrArg some (by kernel_rfl))⟩
  f40 := ⟨Try.f147.name, by decide, Try.func147.trans (congrArg some (by kernel_rfl))⟩
  t0 := Try.underlying0
  a0 := Try.isAgg0
  z0 := Try.sizeOf0
  v0 := Try.zeroValue0
  t3 := Try.underlying3
  a3 := Try.isAgg3
  z3 := Try.sizeOf3
  v3 := Try.zeroValue3
  t4 := Try.underlying4
  a4 := Try.isAgg4
  z4 := Try.sizeOf4
  v4 := Try.zeroValue4
  t5 := Try.underlying5
  a5 := Try.isAgg5
  z5 := Try.sizeOf5
  v5 := Try.zeroValue5
  t9 := Try.underlying9
  a9 := Try.isAgg9
  z9 := Try.sizeOf9
  v9 := Try.zeroValue9
  t22 := Try.underlying32
  a22 := Try.isAgg32
  z22 := Try.sizeOf32
  v22 := Try.zeroValue32
  t23 := Try.underlying32
  a23 := Try.isAgg32
  z23 := Try.sizeOf32
  v23 := Try.zeroValue32
  t25 := Try.underlying3
  a25 := Try.isAgg3
  z25 := Try.sizeOf3
  v25 := Try.zeroValue3
  t32 := Try.underlying173
  a32 := Try.isAgg173
  z32 := Try.sizeOf173
  v32 := Try.zeroValue173
  t35 := Try.underlying177
  a35 := Try.isAgg177
  z35 := Try.sizeOf177
  v35 := Try.zeroValue177
  t36 := Try.underlying178
  a36 := Try.isAgg178
  z36 := Try.sizeOf178
  v36 := Try.zeroValue178
  t41 := Try.underlying157
  a41 := Try.isAgg157
  z41 := Try.sizeOf157
  v41 := Try.zeroValue157
  t44 := Try.underlying185
  a44 := Try.isAgg185
  z44 := Try.sizeOf185
  v44 := Try.zeroValue185
  t46 := Try.underlying187
  a46 := Try.isAgg187
  z46 := Try.sizeOf187
  v46 := Try.zeroValue187
  t53 := Try.underlying194
  a53 := Try.isAgg194
  z53 := Try.sizeOf194
  v53 := Try.zeroValue194
  t57 := Try.underlying198
  a57 := Try.isAgg198
  z57 := Try.sizeOf198
  v57 := Try.zeroValue198
  t63 := Try.underlying202
  a63 := Try.isAgg202
  z63 := Try.sizeOf202
  v63 := Try.zeroValue202
  t64 := Try.underlying69
  a64 := Try.isAgg69
  z64 := Try.sizeOf69
  v64 := Try.zeroValue69 }
end Go.Proofs.Ytihajdkipkfiiaa

/- YtihajdkipkfiiaaSrt -/
/- slices.Sorted(maps.Keys(m)) at whole numbers: the keys, rising. -/
namespace Go.Proofs.Ytihajdkipkfiiaa
open Go Go.RowKit Go.Maps Go.Sort Go.Shelf
set_option linter.unusedVariables false
set_option linter.unusedSimpArgs false
set_option linter.unnecessarySimpa false

def encI1 (x : Int) : List SV := [.int .i64 x]
def keyInt : Key → Int
  | .i _ n => n
  | .s _ => 0
/-- A map's keys, rising. -/
def sortI {β : Type} (es : List (Key × β)) : List Int := (es.map fun e => keyInt e.1).mergeSort leI
/-- Are they keys of the kind? -/
def wfI {β : Type} (es : List (Key × β)) : Prop := keysOk es ∧ es.length ≤ 1000000000 ∧ ∀ e ∈ es, (Lit.int .i64 (keyInt e.1)).wf = true
/-- slices.Sorted at what maps.Keys handed back. -/
def srtIC (fI T : Nat) : Ctr := fun args hs N => match args with
  | [.func (.func f) [] [.ptr lb b 0]] => f = fI ∧ match nth hs lb with
    | some ⟨.blk b', .cells [.map lm rm] _⟩ => match nth hs lm with
      | some ⟨.blk rm', .mapL (β := β) kd enc es⟩ => (b' = b ∧ rm' = rm ∧ kd = some .i64 ∧ wfI es) ∧ ∀ ao cap, N (snoc hs ⟨.sl ao cap, .vecL T 1 encI1 (sortI es) 0⟩) (.vec (lenN hs) ao (sortI es).length cap)
      | _ => False
    | _ => False
  | _ => False

/-- The heap grows: a new block. -/
theorem H.below {W w w' : World} {L : List Ch} (h : H W w L) (hb : Below w.heap.size w w') : H W w' L :=
  ⟨h.st.trans ⟨hb.os, hb.tape, hb.output, hb.size⟩, h.nd, fun b o hm => by
    have := h.get b o hm
    rw [hb.block b (Array.getElem?_eq_some_iff.1 this).1]; exact this, h.fresh, fun b hlt => by rw [hb.block b (Nat.lt_of_lt_of_le hlt h.st.size)]; exact h.old b hlt⟩
theorem H.grow {W w w' : World} {L : List Ch} {g : Nat} {o : Obj} (h : H W w L) (hb : Below w.heap.size w w') (hg : w.heap.size ≤ g) (ho : w'.heap[g]? = some o) : H W w' ([(g, o)] :: L) := by
  have h1 := h.below hb
  refine ⟨h1.st, ?_, fun b q hm => ?_, fun b q hm => ?_, h1.old⟩
  · simp only [List.flatten_cons, List.singleton_append, List.map_cons, List.nodup_cons]
    refine ⟨fun hm => ?_, h.nd⟩
    obtain ⟨⟨b, q⟩, hm, he⟩ := List.mem_map.1 hm
    have he : b = g := he
    have := (Array.getElem?_eq_some_iff.1 (h.get b q hm)).1
    omega
  · simp only [List.flatten_cons, List.singleton_append, List.mem_cons, Prod.mk.injEq] at hm
    rcases hm with ⟨rfl, rfl⟩ | hm
    · exact ho
    · exact h1.get b q hm
  · simp only [List.flatten_cons, List.singleton_append, List.mem_cons, Prod.mk.injEq] at hm
    rcases hm with ⟨rfl, rfl⟩ | hm
    · exact Nat.le_trans h.st.size hg
    · exact h1.fresh b q hm

/-- What a map of ours is to the kit. -/
theorem owns_of {w : World} {rm : Nat} {ents : List MapEntry} {clock k : Nat} {β : Type} {enc : β → SV} {es : List (Key × β)} (hk : Try.prog.underlying k = some (.int .i64)) (hh : w.heap[rm]? = some (.map ents.toArray clock)) (hst : Stamped ents clock) (he : ents.map (fun e => (e.key, e.val)) = es.map fun e => (den e.1.sv, den (enc e.2)))
    (hks : ∀ e ∈ es, keyKind e.1 = some .i64) (hw : wfI es) : ∃ D0 : DataW Unit, w.ownsMap Try.prog k (fun _ => some (.lit (.bool true), [])) rm es.length D0 ∧ (intKeys D0).Perm (es.map fun e => keyInt e.1) ∧ Maps.size D0 = es.length := by
  have hlen : ents.length = es.length := by simpa using congrArg List.length he
  have hkey : ∀ e ∈ es, den e.1.sv = .int .i64 (keyInt e.1) := fun e hm => by
    have := hks e hm
    cases hq : e.1 with
    | i kk n => rw [hq] at this; cases this; rfl
    | s _ => rw [hq] at this; cases this
  have hmem : ∀ x ∈ ents, ∃ e ∈ es, x.key = .int .i64 (keyInt e.1) := fun x hx => by
    have : (x.key, x.val) ∈ es.map fun e => (den e.1.sv, den (enc e.2)) := by rw [← he]; exact List.mem_map.2 ⟨x, hx, rfl⟩
    obtain ⟨e, h1, h2⟩ := List.mem_map.1 this
    simp only [Prod.mk.injEq] at h2
    exact ⟨e, h1, by rw [← h2.1, hkey e h1]⟩
  have hrg : ∀ x ∈ ents, ∃ n, x.key = .int .i64 n ∧ WideElems.rd Try.prog k (fun _ => some ((.lit (.bool true) : DataW Unit), [])) x = some (.int .i64 n, .lit (.bool true)) := fun x hx => by
    obtain ⟨e, h1, h2⟩ := hmem x hx
    exact ⟨_, h2, by simp [WideElems.rd, h2, keyOf_int_mk hk (hw.2.2 e h1)]⟩
  have hkeys : ents.map (fun x => x.key) = es.map fun e => (Value.int .i64 (keyInt e.1)) := by
    have h1 := congrArg (List.map Prod.fst) he
    simp only [List.map_map, Function.comp_def] at h1
    rw [h1]
    exact List.map_congr_left fun e hm => hkey e hm
  refine ⟨_, ⟨ents.toArray, clock, hh, ⟨?_, ?_, ?_⟩, by simp [hlen], rfl⟩, ?_, ?_⟩
  · have := hw.2.1; simp [hlen, maxLen]; omega
  · refine (MapKept.stamped_iff _ _).2 ⟨by simpa using hst.2, by simpa using hst.1, ?_⟩
    have h1 : (ents.map (fun x => x.key)).Pairwise (· ≠ ·) := by
      rw [hkeys, List.pairwise_map]
      refine hw.1.imp_of_mem fun {a b} ha hb hab e => ?_
      injection e with _ e
      have h2 := hks a ha
      have h3 := hks b hb
      cases a with | mk ka va => cases b with | mk kb vb =>
      cases ka <;> cases kb <;> simp_all [keyKind, keyEq, keyInt]
    simpa [List.pairwise_map] using h1
  · intro x hx
    obtain ⟨n, _, h2⟩ := hrg x (by simpa using hx)
    exact ⟨_, h2⟩
  · show (((ents.toArray.toList.map (WideElems.rg Try.prog k _)).foldr DataW.insert []).map fun p => Go.intOf p.1).Perm _
    refine ((Go.WideShapes.sorted_perm _).map _).trans ?_
    simp only [List.map_map]
    have : ents.map ((fun p : Lit × DataW Unit => Go.intOf p.1) ∘ WideElems.rg Try.prog k (fun _ => some (.lit (.bool true), []))) = es.map fun e => keyInt e.1 := by
      have h1 : ents.map ((fun p : Lit × DataW Unit => Go.intOf p.1) ∘ WideElems.rg Try.prog k (fun _ => some (.lit (.bool true), []))) = (ents.map (fun x => x.key)).map fun v => match v with | .int _ n => n | _ => 0 := by
        rw [List.map_map]
        refine List.map_congr_left fun x hx => ?_
        obtain ⟨n, h2, h3⟩ := hrg x hx
        simp [WideElems.rg, h3, h2, Go.intOf]
      rw [h1, hkeys, List.map_map]
      rfl
    rw [this]
  · show ((ents.toArray.toList.map (WideElems.rg Try.prog k _)).foldr DataW.insert []).length = _
    rw [(Go.WideShapes.sorted_perm _).length_eq]; simp [hlen]

theorem sortsI (m : Nat) : AnyZI.SortsIn Try.prog sortedI_ren Fence.wide m :=
  ⟨fun blk off cap ss W hH hblk hsz => callsIn_wide.2 (AnyM.slices_Sort_int sortI_lay blk off cap ss W hH hblk hsz), fun p cap W => callsIn_wide.2 (AnyM.slices_Sort_int_none sortI_lay p cap W)⟩

theorem flat_one : ∀ l : List Int, flatV encI1 l = l.map encZ
  | [] => rfl
  | x :: l => by
    have := flat_one l
    unfold flatV at this ⊢
    simp only [List.flatMap_cons, List.map_cons, this]
    rfl
theorem srtI_ok {fI T : Nat} (hT : T = 3) (hg : ∃ fn, Try.prog.funcs[fI]? = some fn ∧ (fn.name == "runtime.NumGoroutine") = false ∧ ∃ c, fn.body = some c)
    (hK : ∀ (w : World) (b rm nn : Nat) (D0 : DataW Unit), b < w.heap.size → w.cell? ⟨b, 0, none⟩ = some (.map (some rm)) → w.ownsMap Try.prog 3 (fun _ => some (.lit (.bool true), [])) rm nn D0 →
      SeqGives Fence.wide 2 Try.prog fI #[.pointer (some ⟨b, 0, none⟩)] encZ (fun ss => ss.Perm (intKeys D0)) (Maps.size D0) w) : CtrOk Try.prog 80 (srtIC fI T) := by
  subst hT
  intro args hs N h
  unfold srtIC at h
  split at h
  case h_2 => exact h.elim
  rename_i f lb b
  obtain ⟨rfl, h⟩ := h
  split at h
  case h_2 => exact h.elim
  rename_i b' lm rm T' hlb
  split at h
  case h_2 => exact h.elim
  rename_i rm' β kd enc es hlm
  obtain ⟨⟨rfl, rfl, rfl, hw⟩, h⟩ := h
  intro W F w hr
  obtain ⟨fn, g1, g2, c, g3⟩ := hg
  have hcell : w.cell? ⟨b', 0, none⟩ = some (.map (some rm')) := by rw [hr.cells hlb]; rfl
  have hb : b' < w.heap.size := World.block_lt_of_cell? _ _ hcell
  obtain ⟨c0, L0, hc0, hH0, _⟩ := hr.get hlm
  obtain ⟨hks, ents, clock, rfl, hst, he⟩ := hc0
  obtain ⟨D0, o1, o2, o3⟩ := owns_of (k := 3) Try.underlying3 (hH0.heap .here) hst he hks hw
  have hseq := hK w b' rm' es.length D0 hb hcell o1
  have hlen := hw.2.1
  have cS := AnyZI.sorted_in sortedI Fence.wide 5 trivial trivial trivial trivial rfl (by omega) (sortsI _) (enters_of Try.func100 (by kernel_rfl) rfl) f #[.pointer (some ⟨b', 0, none⟩)] trivial (enters_of g1 g2 g3) _ _ (by rw [o3]; unfold maxLen; omega) (by rw [o3]; omega) _ hseq
  refine Calls.mono ((callsIn_wide (n := 5)).1 cS) ?_
  rintro e w' ⟨v, ss, rfl, hS, hrow, hnil, hbel⟩
  have hsort : ss.mergeSort leI = sortI es := mergeSort_of_perm_i (hS.trans o2)
  have hls : ss.length = (sortI es).length := by rw [← hsort, (List.mergeSort_perm ss leI).length_eq]
  have hflat : flatV encI1 (sortI es) = (sortI es).map encZ := flat_one (sortI es)
  rcases hrow.2 with ⟨rfl, h0⟩ | ⟨g, cap, cur, rfl, hge, hgb, hle, hcap, hsz, htk⟩
  · have hnl : sortI es = [] := List.eq_nil_of_length_eq_zero (by omega)
    refine ⟨_, _, h none 0, by rw [hnl]; rfl, ?_⟩
    have hr' : Rep W F hs w' := hr.move fun L hL => hL.below hbel
    rw [hnl]
    exact Rep.nilvec _ (sz := 1) (enc := encI1) 0 (fun _ => rfl) hr'
  · refine ⟨_, _, h (some ⟨g, 0, none⟩) cap, by rw [hls]; rfl, ?_⟩
    refine hr.new (c := [(g, .cells cur _ (0, 0))]) ⟨⟨by rw [hflat]; simp, by omega, .inr ⟨g, 0, cur, rfl, rfl, by omega, ?_⟩⟩, fun _ => rfl⟩ fun L hL => hL.grow hbel hge hgb
    have e1 : (sortI es).length * 1 = ss.length * 1 := by rw [hls]
    rw [List.drop_zero, hflat, e1, htk, ← hsort]
end Go.Proofs.Ytihajdkipkfiiaa

/- YtihajdkipkfiiaaRgC -/
/- The document's groups (reveilleref9). -/
namespace Go.Proofs.Ytihajdkipkfiiaa
open Go Go.RowKit
set_option linter.unusedVariables false
set_option linter.unusedSimpArgs false
set_option linter.unnecessarySimpa false
set_option maxHeartbeats 0

/-- The document's groups. -/
structure RGrp where
  (name : ByteArray) (ao : Option Addr) (cap : Nat) (pids : List Int)
structure RG where
  (aoL : Option Addr) (capL : Nat) (L : List RGrp) (aoN : Option Addr) (capN : Nat) (notes : List ByteArray)
def encR (g : RGrp) : List SV := [.str g.name, .vec 4 g.ao g.pids.length g.cap]
def zR : RGrp := ⟨⟨#[]⟩, none, 0, []⟩
def pidE (g : RGrp) : Ent := ⟨.sl g.ao g.cap, .vecL 3 1 encI1 g.pids 0⟩
def rgE (r : RG) (b : Nat) : List Ent := [⟨.blk b, .cells [.vec 1 r.aoL r.L.length r.capL, .vec 2 r.aoN r.notes.length r.capN] 103⟩, ⟨.sl r.aoL r.capL, .vecL 112 2 encR r.L zR⟩, ⟨.sl r.aoN r.capN, .vecL 9 1 encS r.notes ByteArray.empty⟩, pk 0 (r.L.map pidE)]
/-- Where a name stands, or is to stand. -/
def rAt (L : List RGrp) (name : ByteArray) : Nat := (L.takeWhile fun g => sLt g.name name).length
def rHas (L : List RGrp) (name : ByteArray) : Bool := decide (rAt L name < L.length) && sEq (L.getD (rAt L name) zR).name name
def rMake (r : RG) (name : ByteArray) (ao : Option Addr) (cap : Nat) : RG × Int := match sEq name ⟨#[]⟩ with
  | true => (r, 90)
  | false => match rHas r.L name with
    | true => (r, 91)
    | false => ({ r with L := r.L.take (rAt r.L name) ++ ⟨name, none, 0, []⟩ :: r.L.drop (rAt r.L name), aoL := ao, capL := cap }, 0)
def rRemove (r : RG) (name : ByteArray) (ao : Option Addr) (cap : Nat) (aoN : Option Addr) (capN : Nat) : RG × Int := match rHas r.L name with
  | false => (r, 90)
  | true => match decide (((r.L.getD (rAt r.L name) zR).pids.length : Int) > 0) with
    | true => (r, 91)
    | false => (⟨ao, cap, r.L.take (rAt r.L name) ++ r.L.drop (rAt r.L name + 1), aoN, capN, r.notes.filter fun x => !sEq x name⟩, 0)
def rOf (L : List RGrp) (pid : Int) : Option ByteArray := (L.find? fun g => g.pids.contains pid).map (·.name)
/-- A group's members are others. -/
def rSet (L : List RGrp) (i : Nat) (l : List Int) (ao : Option Addr) (cap : Nat) : List RGrp := L.set i { L.getD i zR with pids := l, ao := ao, cap := cap }
def rGone (r : RG) (pid : Int) (ao : Option Addr) (cap : Nat) (aoN : Option Addr) (capN : Nat) : RG × Bool := match rOf r.L pid with
  | none => (r, false)
  | some n => match (((r.L.getD (rAt r.L n) zR).pids.filter fun p => p != pid).length == 0) && !(r.notes.any fun x => sEq x n) with
    | true => ({ r with L := rSet r.L (rAt r.L n) ((r.L.getD (rAt r.L n) zR).pids.filter fun p => p != pid) ao cap, notes := r.notes ++ [n], aoN := aoN, capN := capN }, true)
    | false => ({ r with L := rSet r.L (rAt r.L n) ((r.L.getD (rAt r.L n) zR).pids.filter fun p => p != pid) ao cap }, true)
/-- A number among those that rise. -/
def insI (l : List Int) (p : Int) : List Int := l.takeWhile (fun x => decide (x < p)) ++ p :: l.dropWhile (fun x => decide (x < p))
def rPut2 (r : RG) (pid : Int) (name : ByteArray) (ao : Option Addr) (cap : Nat) : RG := { r with L := rSet r.L (rAt r.L name) (insI (r.L.getD (rAt r.L name) zR).pids pid) ao cap }
def rIn (L : List RGrp) (pid : Int) (name : ByteArray) : Bool := match rOf L pid with
  | some n => sEq n name
  | none => false
def rPut (r : RG) (pid : Int) (name : ByteArray) (ao1 : Option Addr) (cap1 : Nat) (aoN : Option Addr) (capN : Nat) (ao : Option Addr) (cap : Nat) : RG × Int := match !rHas r.L name || decide (pid < 2) with
  | true => (r, 90)
  | false => match rIn r.L pid name with
    | true => (r, 0)
    | false => (rPut2 (rGone r pid ao1 cap1 aoN capN).1 pid name ao cap, 0)
def rMem (L : List RGrp) (name : ByteArray) : List Int := match rHas L name with
  | true => (L.getD (rAt L name) zR).pids
  | false => []
/-- The first of the notes that is of an empty group. -/
def rFirst (L : List RGrp) : List ByteArray → List ByteArray × Option ByteArray
  | [] => ([], none)
  | n :: l => match rHas L n && ((L.getD (rAt L n) zR).pids.length == 0) with
    | true => (l, some n)
    | false => rFirst L l
/-- Few enough; each process's group is where its name stands. -/
def rOk (r : RG) : Prop := r.L.length ≤ 1000 ∧ r.notes.length ≤ 1000000 ∧ ∀ g ∈ r.L, g.pids.length ≤ 1000
def ratM (r : RG) (args : List SV) (N : RG → SV → Prop) : Prop := match args with
  | [.str name] => rOk r ∧ N r (.tuple [.int .i64 (rAt r.L name : Int), .bool (rHas r.L name)])
  | _ => False
def rmakeM (r : RG) (args : List SV) (N : RG → SV → Prop) : Prop := match args with
  | [.str name] => rOk r ∧ ∀ ao cap, N (rMake r name ao cap).1 (.int .i64 (rMake r name ao cap).2)
  | _ => False
def rforgetM (r : RG) (args : List SV) (N : RG → SV → Prop) : Prop := match args with
  | [.str name] => rOk r ∧ ∀ ao cap, N { r with notes := r.notes.filter (fun x => !sEq x name), aoN := ao, capN := cap } (.tuple [])
  | _ => False
def rremoveM (r : RG) (args : List SV) (N : RG → SV → Prop) : Prop := match args with
  | [.str name] => rOk r ∧ ∀ ao cap aoN capN, N (rRemove r name ao cap aoN capN).1 (.int .i64 (rRemove r name ao cap aoN capN).2)
  | _ => False
def rofM (r : RG) (args : List SV) (N : RG → SV → Prop) : Prop := match args with
  | [.int .i64 pid] => rOk r ∧ N r (.tuple [.str ((rOf r.L pid).getD ⟨#[]⟩), .bool (rOf r.L pid).isSome])
  | _ => False
/-- Each process's group is found by its name. -/
def rAtOk (L : List RGrp) (pid : Int) : Prop := ∀ n, rOf L pid = some n → rHas L n = true
def rgoneM (r : RG) (args : List SV) (N : RG → SV → Prop) : Prop := match args with
  | [.int .i64 pid] => (rOk r ∧ rAtOk r.L pid) ∧ ∀ ao cap aoN capN, N (rGone r pid ao cap aoN capN).1 (.bool (rGone r pid ao cap aoN capN).2)
  | _ => False
def rputM (r : RG) (args : List SV) (N : RG → SV → Prop) : Prop := match args with
  | [.int .i64 pid, .str name] => ((rOk r ∧ r.notes.length ≤ 10000) ∧ rAtOk r.L pid) ∧ ∀ ao1 cap1 aoN capN ao cap, N (rPut r pid name ao1 cap1 aoN capN ao cap).1 (.int .i64 (rPut r pid name ao1 cap1 aoN capN ao cap).2)
  | _ => False
def remptiedM (r : RG) (args : List SV) (N : RG → SV → Prop) : Prop := match args with
  | [] => rOk r ∧ ∀ ao cap, N { r with notes := (rFirst r.L r.notes).1, aoN := ao, capN := cap } (.tuple [.str ((rFirst r.L r.notes).2.getD ⟨#[]⟩), .bool (rFirst r.L r.notes).2.isSome])
  | _ => False
/-- Members: a row of its own. -/
def rmembersC : Ctr := fun args hs N => match args with
  | [.ptr l b 0, .str name] => match nth hs l with
    | some ⟨.blk b', .adt (σ := σ') p r⟩ => b' = b ∧ ∃ h : σ' = RG, AdtIs p rgE ∧ rOk (cast h r) ∧
        ∀ ao cap, N (snoc hs ⟨.sl ao cap, .vecL 3 1 encI1 (rMem (cast h r).L name) 0⟩) (.vec (lenN hs) ao (rMem (cast h r).L name).length cap)
    | _ => False
  | _ => False
end Go.Proofs.Ytihajdkipkfiiaa

/- YtihajdkipkfiiaaLayS -/
/- Layings of the kit's contracts for slices.Sorted and maps.Keys at this program, in plain words. -/
namespace Go.Proofs.Ytihajdkipkfiiaa
open Go.Shelf
def keysU_ren : Go.Shelf.Ren := ⟨fun | 7 => 88 | 10 => 107 | n => n, fun | 23 => 138 | 26 => 9 | 3 => 119 | 28 => 95 | 0 => 0 | 27 => 94 | 33 => 97 | 4 => 4 | n => n, fun | n => n⟩
theorem keysU : Go.Proofs.SlLaysZ.n7 Try.prog keysU_ren := {
  mixed := by kernel_rfl
  f7 := ⟨Try.f88.name, by decide, Try.func88.trans (congrArg some (by kernel_rfl))⟩
  f10 := ⟨Try.f107.name, by decide, Try.func107.trans (congrArg some (by kernel_rfl))⟩
  t0 := Try.underlying0
  a0 := Try.isAgg0
  z0 := Try.sizeOf0
  v0 := Try.zeroValue0
  t4 := Try.underlying4
  a4 := Try.isAgg4
  z4 := Try.sizeOf4
  v4 := Try.zeroValue4
  t23 := Try.underlying138
  a23 := Try.isAgg138
  z23 := Try.sizeOf138
  v23 := Try.zeroValue138
  t26 := Try.underlying9
  a26 := Try.isAgg9
  z26 := Try.sizeOf9
  v26 := Try.zeroValue9
  t27 := Try.underlying94
  a27 := Try.isAgg94
  z27 := Try.sizeOf94
  v27 := Try.zeroValue94
  t28 := Try.underlying95
  a28 := Try.isAgg95
  z28 := Try.sizeOf95
  v28 := Try.zeroValue95
  t33 := Try.underlying97
  a33 := Try.isAgg97
  z33 := Try.sizeOf97
  v33 := Try.zeroValue97 }
def sortedS_ren : Go.Shelf.Ren := ⟨fun | 6 => 87 | 8 => 105 | 9 => 106 | 11 => 114 | 13 => 113 | 12 => 115 | 23 => 126 | 24 => 127 | 14 => 128 | 15 => 129 | 16 => 130 | 17 => 131 | 18 => 132 | 19 => 133 | 20 => 134 | 21 => 135 | 22 => 136 | 25 => 143 | 26 => 138 | 27 => 139 | 28 => 144 | 29 => 145 | 30 => 146 | 31 => 148 | n => n, fun | 26 => 9 | 28 => 95 | 24 => 93 | 0 => 0 | 3 => 3 | 37 => 173 | 48 => 185 | 50 => 187 | 4 => 4 | 40 => 178 | 39 => 177 | 45 => 157 | 5 => 5 | 9 => 9 | 51 => 194 | 55 => 198 | 57 => 202 | 58 => 69 | 33 => 97 | n => n, fun | n => n⟩
theorem sortedS : Go.Proofs.SlLaysZ.n6 Try.prog sortedS_ren := {
  mixed := by kernel_rfl
  f6 := ⟨Try.f87.name, by decide, Try.func87.trans (congrArg some (by kernel_rfl))⟩
  f8 := ⟨Try.f105.name, by decide, Try.func105.trans (congrArg some (by kernel_rfl))⟩
  f11 := ⟨Try.f114.name, by decide, Try.func114.trans (congrArg some (by kernel_rfl))⟩
  t0 := Try.underlying0
  a0 := Try.isAgg0
  z0 := Try.sizeOf0
  v0 := Try.zeroValue0
  t24 := Try.underlying93
  a24 := Try.isAgg93
  z24 := Try.sizeOf93
  v24 := Try.zeroValue93
  t26 := Try.underlying9
  a26 := Try.isAgg9
  z26 := Try.sizeOf9
  v26 := Try.zeroValue9
  t28 := Try.underlying95
  a28 := Try.isAgg95
  z28 := Try.sizeOf95
  v28 := Try.zeroValue95
  i26 := by kernel_rfl }
def sortS_lay_ren : Go.Shelf.Ren := ⟨fun | 6 => 106 | 8 => 113 | 9 => 115 | 19 => 126 | 20 => 127 | 21 => 128 | 22 => 129 | 23 => 130 | 24 => 131 | 25 => 132 | 26 => 133 | 27 => 134 | 28 => 135 | 29 => 136 | 36 => 143 | 31 => 138 | 32 => 139 | 37 => 144 | 38 => 145 | 39 => 146 | 41 => 148 | n => n, fun | 27 => 93 | 29 => 9 | 3 => 3 | 32 => 173 | 26 => 93 | 0 => 0 | 44 => 185 | 46 => 187 | 4 => 4 | 36 => 178 | 35 => 177 | 41 => 157 | 5 => 5 | 9 => 9 | 53 => 194 | 57 => 198 | 63 => 202 | 64 => 69 | n => n, fun | n => n⟩
theorem sortS_lay : Go.Proofs.SlLaysM.n6 Try.prog sortS_lay_ren := {
  mixed := by kernel_rfl
  f6 := ⟨Try.f106.name, by decide, Try.func106.trans (congrArg some (by kernel_rfl))⟩
  f8 := Try.func113.trans (congrArg some (by kernel_rfl))
  f9 := ⟨Try.f115.name, by decide, Try.func115.trans (congrArg some (by kernel_rfl))⟩
  f19 := Try.func126.trans (congrArg some (by kernel_rfl))
  f20 := Try.func127.trans (congrArg some (by kernel_rfl))
  f21 := ⟨Try.f128.name, by decide, Try.func128.trans (congrArg some (by kernel_rfl))⟩
  f22 := ⟨Try.f129.name, by decide, Try.func129.trans (congrArg some (by kernel_rfl))⟩
  f23 := ⟨Try.f130.name, by decide, Try.func130.trans (congrArg some (by kernel_rfl))⟩
  f24 := ⟨Try.f131.name, by decide, Try.func131.trans (congrArg some (by kernel_rfl))⟩
  f25 := ⟨Try.f132.name, by decide, Try.func132.trans (congrArg some (by kernel_rfl))⟩
  f26 := ⟨Try.f133.name, by decide, Try.func133.trans (congrArg some (by kernel_rfl))⟩
  f27 := ⟨Try.f134.name, by decide, Try.func134.trans (congrArg some (by kernel_rfl))⟩
  f28 := ⟨Try.f135.name, by decide, Try.func135.trans (congrArg some (by kernel_rfl))⟩
  f29 := ⟨Try.f136.name, by decide, Try.func136.trans (congrArg some (by kernel_rfl))⟩
  f31 := Try.func138.trans (congrArg some (by kernel_rfl))
  f32 := Try.func139.trans (congrArg some (by kernel_rfl))
  f36 := ⟨Try.f143.name, by decide, Try.func143.trans (congrArg some (by kernel_rfl))⟩
  f37 := ⟨Try.f144.name, by decide, Try.func144.trans (congrArg some (by kernel_rfl))⟩
  f38 := ⟨Try.f145.name, by decide, Try.func145.trans (congrArg some (by kernel_rfl))⟩
  f39 := ⟨Try.f146.name, by decide, Try.func146.trans (congrArg some (by kernel_rfl))⟩
  f41 := ⟨Try.f148.name, by decide, Try.func148.trans (congrArg some (by kernel_rfl))⟩
  t0 := Try.underlying0
  a0 := Try.isAgg0
  z0 := Try.sizeOf0
  v0 := Try.zeroValue0
  t3 := Try.underlying3
  a3 := Try.isAgg3
  z3 := Try.sizeOf3
  v3 := Try.zeroValue3
  t4 := Try.underlying4
  a4 := Try.isAgg4
  z4 := Try.sizeOf4
  v4 := Try.zeroValue4
  t5 := Try.underlying5
  a5 := Try.isAgg5
  z5 := Try.sizeOf5
  v5 := Try.zeroValue5
  t9 := Try.underlying9
  a9 := Try.isAgg9
  z9 := Try.sizeOf9
  v9 := Try.zeroValue9
  t26 := Try.underlying93
  a26 := Try.isAgg93
  z26 := Try.sizeOf93
  v26 := Try.zeroValue93
  t27 := Try.underlying93
  a27 := Try.isAgg93
  z27 := Try.sizeOf93
  v27 := Try.zeroValue93
  t29 := Try.underlying9
  a29 := Try.isAgg9
  z29 := Try.sizeOf9
  v29 := Try.zeroValue9
  t32 := Try.underlying173
  a32 := Try.isAgg173
  z32 := Try.sizeOf173
  v32 := Try.zeroValue173
  t35 := Try.underlying177
  a35 := Try.isAgg177
  z35 := Try.sizeOf177
  v35 := Try.zeroValue177
  t36 := Try.underlying178
  a36 := Try.isAgg178
  z36 := Try.sizeOf178
  v36 := Try.zeroValue178
  t41 := Try.underlying157
  a41 := Try.isAgg157
  z41 := Try.sizeOf157
  v41 := Try.zeroValue157
  t44 := Try.underlying185
  a44 := Try.isAgg185
  z44 := Try.sizeOf185
  v44 := Try.zeroValue185
  t46 := Try.underlying187
  a46 := Try.isAgg187
  z46 := Try.sizeOf187
  v46 := Try.zeroValue187
  t53 := Try.underlying194
  a53 := Try.isAgg194
  z53 := Try.sizeOf194
  v53 := Try.zeroValue194
  t57 := Try.underlying198
  a57 := Try.isAgg198
  z57 := Try.sizeOf198
  v57 := Try.zeroValue198
  t63 := Try.underlying202
  a63 := Try.isAgg202
  z63 := Try.sizeOf202
  v63 := Try.zeroValue202
  t64 := Try.underlying69
  a64 := Try.isAgg69
  z64 := Try.sizeOf69
  v64 := Try.zeroValue69 }
end Go.Proofs.Ytihajdkipkfiiaa

/- YtihajdkipkfiiaaSrtS -/
/- slices.Sorted(maps.Keys(m)) at texts: the keys, rising. -/
namespace Go.Proofs.Ytihajdkipkfiiaa
open Go Go.RowKit Go.Maps Go.Sort Go.Shelf
set_option linter.unusedVariables false
set_option linter.unusedSimpArgs false
set_option linter.unnecessarySimpa false

def encS1 (x : ByteArray) : List SV := [.str x]
def keyStr : Key → List UInt8
  | .i _ _ => []
  | .s b => b.data.toList
def ofB (l : List UInt8) : ByteArray := ⟨l.toArray⟩
/-- A map's keys, rising. -/
def sortS {β : Type} (es : List (Key × β)) : List ByteArray := ((es.map fun e => keyStr e.1).mergeSort leB).map ofB
/-- Are they keys of the kind? -/
def wfS {β : Type} (es : List (Key × β)) : Prop := keysOk es ∧ es.length ≤ 1000000000 ∧ ∀ e ∈ es, (keyStr e.1).length ≤ maxLen
/-- slices.Sorted at what maps.Keys handed back. -/
def srtSC (fI T : Nat) : Ctr := fun args hs N => match args with
  | [.func (.func f) [] [.ptr lb b 0]] => f = fI ∧ match nth hs lb with
    | some ⟨.blk b', .cells [.map lm rm] _⟩ => match nth hs lm with
      | some ⟨.blk rm', .mapL (β := β) kd enc es⟩ => (b' = b ∧ rm' = rm ∧ kd = none ∧ wfS es) ∧ ∀ ao cap, N (snoc hs ⟨.sl ao cap, .vecL T 1 encS1 (sortS es) ByteArray.empty⟩) (.vec (lenN hs) ao (sortS es).length cap)
      | _ => False
    | _ => False
  | _ => False

/-- What a map of ours is to the kit. -/
theorem ownsS_of {w : World} {rm : Nat} {ents : List MapEntry} {clock k : Nat} {β : Type} {enc : β → SV} {es : List (Key × β)} (hk : Try.prog.underlying k = some .string) (hh : w.heap[rm]? = some (.map ents.toArray clock)) (hst : Stamped ents clock) (he : ents.map (fun e => (e.key, e.val)) = es.map fun e => (den e.1.sv, den (enc e.2)))
    (hks : ∀ e ∈ es, keyKind e.1 = none) (hw : wfS es) : ∃ D0 : DataW Unit, w.ownsMap Try.prog k (fun _ => some (.lit (.bool true), [])) rm es.length D0 ∧ (strKeys D0).Perm (es.map fun e => keyStr e.1) ∧ Maps.size D0 = es.length := by
  have hlen : ents.length = es.length := by simpa using congrArg List.length he
  have hkey : ∀ e ∈ es, den e.1.sv = .string ⟨(keyStr e.1).toArray⟩ := fun e hm => by
    have := hks e hm
    cases hq : e.1 with
    | i kk n => rw [hq] at this; cases this
    | s b => simp [keyStr, Key.sv, den]
  have hmem : ∀ x ∈ ents, ∃ e ∈ es, x.key = .string ⟨(keyStr e.1).toArray⟩ := fun x hx => by
    have : (x.key, x.val) ∈ es.map fun e => (den e.1.sv, den (enc e.2)) := by rw [← he]; exact List.mem_map.2 ⟨x, hx, rfl⟩
    obtain ⟨e, h1, h2⟩ := List.mem_map.1 this
    simp only [Prod.mk.injEq] at h2
    exact ⟨e, h1, by rw [← h2.1, hkey e h1]⟩
  have hrg : ∀ x ∈ ents, ∃ n : List UInt8, x.key = .string ⟨n.toArray⟩ ∧ WideElems.rd Try.prog k (fun _ => some ((.lit (.bool true) : DataW Unit), [])) x = some (.string n, .lit (.bool true)) := fun x hx => by
    obtain ⟨e, h1, h2⟩ := hmem x hx
    refine ⟨_, h2, ?_⟩
    have hsz : (ByteArray.mk (keyStr e.1).toArray).size ≤ maxLen := by have := hw.2.2 e h1; simpa [ByteArray.size] using this
    have : Go.keyOf Try.prog k (.string ⟨(keyStr e.1).toArray⟩) = some (.string (keyStr e.1)) := by simp [Go.keyOf, hk, Go.mapKey, hsz]
    simp [WideElems.rd, h2, this]
  have hkeys : ents.map (fun x => x.key) = es.map fun e => (Value.string ⟨(keyStr e.1).toArray⟩) := by
    have h1 := congrArg (List.map Prod.fst) he
    simp only [List.map_map, Function.comp_def] at h1
    rw [h1]
    exact List.map_congr_left fun e hm => hkey e hm
  refine ⟨_, ⟨ents.toArray, clock, hh, ⟨?_, ?_, ?_⟩, by simp [hlen], rfl⟩, ?_, ?_⟩
  · have := hw.2.1; simp [hlen, maxLen]; omega
  · refine (MapKept.stamped_iff _ _).2 ⟨by simpa using hst.2, by simpa using hst.1, ?_⟩
    have h1 : (ents.map (fun x => x.key)).Pairwise (· ≠ ·) := by
      rw [hkeys, List.pairwise_map]
      refine hw.1.imp_of_mem fun {a b} ha hb hab e => ?_
      have e : keyStr a.1 = keyStr b.1 := by simpa using e
      have h2 := hks a ha
      have h3 := hks b hb
      cases a with | mk ka va => cases b with | mk kb vb =>
      cases ka with
      | i _ _ => cases h2
      | s x =>
        cases kb with
        | i _ _ => cases h3
        | s y =>
          have : x = y := by
            cases x; cases y
            simp [keyStr] at e
            rw [e]
          subst this
          simp [keyEq_self] at hab
    simpa [List.pairwise_map] using h1
  · intro x hx
    obtain ⟨n, _, h2⟩ := hrg x (by simpa using hx)
    exact ⟨_, h2⟩
  · show (((ents.toArray.toList.map (WideElems.rg Try.prog k _)).foldr DataW.insert []).map fun p => strOf p.1).Perm _
    refine ((Go.WideShapes.sorted_perm _).map _).trans ?_
    simp only [List.map_map]
    have : ents.map ((fun p : Lit × DataW Unit => strOf p.1) ∘ WideElems.rg Try.prog k (fun _ => some (.lit (.bool true), []))) = es.map fun e => keyStr e.1 := by
      have h1 : ents.map ((fun p : Lit × DataW Unit => strOf p.1) ∘ WideElems.rg Try.prog k (fun _ => some (.lit (.bool true), []))) = (ents.map (fun x => x.key)).map fun v => match v with | .string s => s.data.toList | _ => [] := by
        rw [List.map_map]
        refine List.map_congr_left fun x hx => ?_
        obtain ⟨n, h2, h3⟩ := hrg x hx
        simp [WideElems.rg, h3, h2, strOf]
      rw [h1, hkeys, List.map_map]
      refine List.map_congr_left fun e _ => ?_
      simp
    rw [this]
  · show ((ents.toArray.toList.map (WideElems.rg Try.prog k _)).foldr DataW.insert []).length = _
    rw [(Go.WideShapes.sorted_perm _).length_eq]; simp [hlen]

theorem sortsS (m : Nat) : AnyZ.SortsIn Try.prog sortedS_ren Fence.wide m :=
  ⟨fun blk off cap ss W hH hblk hsz => callsIn_wide.2 (AnyM.slices_Sort_string sortS_lay blk off cap ss W hH hblk hsz), fun p cap W => callsIn_wide.2 (AnyM.slices_Sort_string_none sortS_lay p cap W)⟩

theorem flat_strs : ∀ l : List (List UInt8), flatV encS1 (l.map ofB) = l.map encStr
  | [] => rfl
  | x :: l => by
    have := flat_strs l
    unfold flatV at this ⊢
    simp only [List.map_cons, List.flatMap_cons, this]
    rfl
theorem srtS_ok {fI T : Nat} (hT : T = 9) (hg : ∃ fn, Try.prog.funcs[fI]? = some fn ∧ (fn.name == "runtime.NumGoroutine") = false ∧ ∃ c, fn.body = some c)
    (hK : ∀ (w : World) (b rm nn : Nat) (D0 : DataW Unit), b < w.heap.size → w.cell? ⟨b, 0, none⟩ = some (.map (some rm)) → w.ownsMap Try.prog 9 (fun _ => some (.lit (.bool true), [])) rm nn D0 →
      SeqGives Fence.wide 2 Try.prog fI #[.pointer (some ⟨b, 0, none⟩)] encStr (fun ss => ss.Perm (strKeys D0)) (Maps.size D0) w) : CtrOk Try.prog 87 (srtSC fI T) := by
  subst hT
  intro args hs N h
  unfold srtSC at h
  split at h
  case h_2 => exact h.elim
  rename_i f lb b
  obtain ⟨rfl, h⟩ := h
  split at h
  case h_2 => exact h.elim
  rename_i b' lm rm T' hlb
  split at h
  case h_2 => exact h.elim
  rename_i rm' β kd enc es hlm
  obtain ⟨⟨rfl, rfl, rfl, hw⟩, h⟩ := h
  intro W F w hr
  obtain ⟨fn, g1, g2, c, g3⟩ := hg
  have hcell : w.cell? ⟨b', 0, none⟩ = some (.map (some rm')) := by rw [hr.cells hlb]; rfl
  have hb : b' < w.heap.size := World.block_lt_of_cell? _ _ hcell
  obtain ⟨c0, L0, hc0, hH0, _⟩ := hr.get hlm
  obtain ⟨hks, ents, clock, rfl, hst, he⟩ := hc0
  obtain ⟨D0, o1, o2, o3⟩ := ownsS_of (k := 9) Try.underlying9 (hH0.heap .here) hst he hks hw
  have hseq := hK w b' rm' es.length D0 hb hcell o1
  have hlen := hw.2.1
  have cS := AnyZ.sorted_in sortedS Fence.wide 5 trivial trivial trivial trivial rfl (by omega) (sortsS _) (enters_of Try.func106 (by kernel_rfl) rfl) f #[.pointer (some ⟨b', 0, none⟩)] trivial (enters_of g1 g2 g3) _ _ (by rw [o3]; unfold maxLen; omega) (by rw [o3]; omega) _ hseq
  refine Calls.mono ((callsIn_wide (n := 5)).1 cS) ?_
  rintro e w' ⟨v, ss, rfl, hS, hrow, hnil, hbel⟩
  have hsort : sortS es = (ss.mergeSort leB).map ofB := by unfold sortS; rw [mergeSort_of_perm (hS.trans o2)]
  have hls : ss.length = (sortS es).length := by rw [hsort, List.length_map, (List.mergeSort_perm ss leB).length_eq]
  have hflat : flatV encS1 (sortS es) = (ss.mergeSort leB).map encStr := by rw [hsort, flat_strs]
  rcases hrow.2 with ⟨rfl, h0⟩ | ⟨g, cap, cur, rfl, hge, hgb, hle, hcap, hsz, htk⟩
  · have hnl : sortS es = [] := List.eq_nil_of_length_eq_zero (by omega)
    refine ⟨_, _, h none 0, by rw [hnl]; rfl, ?_⟩
    have hr' : Rep W F hs w' := hr.move fun L hL => hL.below hbel
    rw [hnl]
    exact Rep.nilvec _ (sz := 1) (enc := encS1) ByteArray.empty (fun _ => rfl) hr'
  · refine ⟨_, _, h (some ⟨g, 0, none⟩) cap, by rw [hls]; rfl, ?_⟩
    refine hr.new (c := [(g, .cells cur _ (0, 0))]) ⟨⟨by rw [hflat]; simp [hls], by omega, .inr ⟨g, 0, cur, rfl, rfl, by omega, ?_⟩⟩, fun _ => rfl⟩ fun L hL => hL.grow hbel hge hgb
    have e1 : (sortS es).length * 1 = ss.length * 1 := by rw [hls]
    rw [List.drop_zero, hflat, e1, htk]
end Go.Proofs.Ytihajdkipkfiiaa

/- YtihajdkipkfiiaaGaC -/
/- cgroup.Groups: Of, Members, names, All. -/
namespace Go.Proofs.Ytihajdkipkfiiaa
open Go Go.RowKit
set_option linter.unusedVariables false
set_option linter.unusedSimpArgs false
set_option linter.unnecessarySimpa false
set_option maxHeartbeats 0

/-- A group's members, if it is there. -/
def memG (s : Grp) (n : ByteArray) : List Int := match mget s.gs (.s n) with
  | some x => sortI x.2
  | none => []
def memGOk (s : Grp) (n : ByteArray) : Prop := ∀ x, mget s.gs (.s n) = some x → wfI x.2
def gofM (s : Grp) (args : List SV) (N : Grp → SV → Prop) : Prop := match args with
  | [.int .i64 pid] => N s (.tuple [.str ((mget s.of (.i .i64 pid)).getD ⟨#[]⟩), .bool (mget s.of (.i .i64 pid)).isSome])
  | _ => False
/-- Members: a row of its own. -/
def membersNC : Ctr := fun args hs N => match args with
  | [.ptr l b 0, .str name] => match nth hs l with
    | some ⟨.blk b', .adt (σ := σ') p s⟩ => b' = b ∧ ∃ h : σ' = Grp, AdtIs p grpE ∧ memGOk (cast h s) name ∧
        ∀ ao cap, N (snoc hs ⟨.sl ao cap, .vecL 3 1 encI1 (memG (cast h s) name) 0⟩) (.vec (lenN hs) ao (memG (cast h s) name).length cap)
    | _ => False
  | _ => False
/-- slices.Sorted at what maps.Keys handed back; the map may be none. -/
def srtQC (fI T : Nat) : Ctr := fun args hs N => match args with
  | [.func (.func f) [] [.ptr lb b 0]] => f = fI ∧ match nth hs lb with
    | some ⟨.blk b', .cells [.map lm rm] _⟩ => match nth hs lm with
      | some ⟨.blk rm', .mapL (β := β) kd enc es⟩ => (b' = b ∧ rm' = rm ∧ kd = some .i64 ∧ wfI es) ∧ ∀ ao cap, N (snoc hs ⟨.sl ao cap, .vecL T 1 encI1 (sortI es) 0⟩) (.vec (lenN hs) ao (sortI es).length cap)
      | _ => False
    | some ⟨.blk b', .cells [.raw (.map none)] _⟩ => b' = b ∧ ∀ ao cap, N (snoc hs ⟨.sl ao cap, .vecL T 1 encI1 [] 0⟩) (.vec (lenN hs) ao 0 cap)
    | _ => False
  | _ => False
def gaT0 : Tbl := [(96, inl Try.prog [] true Try.f96 100), (80, srtQC 110 3)]
def gaT : Tbl := (73, inl Try.prog gaT0 true Try.f73 200) :: gaT0
/-- names: a function over a row of its own. -/
def namesC : Ctr := fun args hs N => match args with
  | [.ptr l b 0] => match nth hs l with
    | some ⟨.blk b', .adt (σ := σ') p s⟩ => b' = b ∧ ∃ h : σ' = Grp, AdtIs p grpE ∧ wfS (cast h s).gs ∧
        ∀ ao cap bx, N (snoc (snoc hs ⟨.sl ao cap, .vecL 9 1 encS (sortS (cast h s).gs) ByteArray.empty⟩) ⟨.blk bx, .cells [.vec (lenN hs) ao (sortS (cast h s).gs).length cap] 93⟩) (.func (.func 104) [] [.ptr (lenN hs + 1) bx 0])
    | _ => False
  | _ => False
def gnT : Tbl := [(109, inl Try.prog [] true Try.f109 100), (87, srtSC 116 9), (86, inl Try.prog [] true Try.f86 100)]
/-- What the walk through the groups asks of the function that it is given. -/
def allGY (fv : Value) (s : Grp) (b : Nat) (ns : List ByteArray) (R : Nat → List Ent) (Stop : List Ent → Prop) : YCtr := fun v args hs N => v = fv ∧ match hs with
  | e0 :: e1 :: e2 :: e3 :: e4 :: e5 :: e6 :: rest => ∃ i x ao cap, ns[i]? = some x ∧ args = [.str x, .vec 6 ao (memG s x).length cap] ∧ e0 = pkA b grpE s ∧ e3 = pk 0 (R i) ∧ e6 = ⟨.sl ao cap, .vecL 3 1 encI1 (memG s x) 0⟩ ∧
      N (e0 :: e1 :: e2 :: pk 0 (R (i + 1)) :: e4 :: e5 :: e6 :: rest) (.bool true) ∧ ∀ R', Stop R' → N (e0 :: e1 :: e2 :: pk 0 R' :: e4 :: e5 :: e6 :: rest) (.bool false)
  | _ => False
end Go.Proofs.Ytihajdkipkfiiaa

/- YtihajdkipkfiiaaGrpT -/
/- The groups' methods as1 a table. -/
namespace Go.Proofs.Ytihajdkipkfiiaa
open Go Go.RowKit
set_option linter.unusedVariables false
def gTb : Tbl := [(13, newGC), (14, adtC grpE makeM), (16, adtC grpE putM), (15, adtC grpE goneM), (60, adtC grpE removeM), (19, adtC grpE emptiedM)]
end Go.Proofs.Ytihajdkipkfiiaa

/- YtihajdkipkfiiaaRaw -/
/- Slots of which nothing is said, in short. -/
namespace Go.Proofs.Ytihajdkipkfiiaa
open Go Go.RowKit
/-- n slots from the k-th one on, ahead of t. -/
def rawR (u : Nat → Value) (k : Nat) (t : List SV) : Nat → List SV
  | 0 => t
  | n + 1 => SV.raw (u k) :: rawR u (k + 1) t n
/-- n empty slots ahead of t. -/
def rawE (t : List SV) : Nat → List SV
  | 0 => t
  | n + 1 => SV.raw (Value.tuple #[]) :: rawE t n
end Go.Proofs.Ytihajdkipkfiiaa

/- YtihajdkipkfiiaaGr1Run -/
namespace Go.Proofs.Ytihajdkipkfiiaa
set_option linter.unusedVariables false
open Go Go.RowKit
set_option maxHeartbeats 0
set_option maxRecDepth 100000
set_option maxRecDepth 100000

theorem idxS_start (K : List Frm → Sy → Prop) (N : List Ent → SV → Prop) (ao : Option Addr) (cap : Nat) (xs : List ByteArray) (v : ByteArray) : (run Try.prog [] false [] K (retP Try.prog Try.f95.results.toList N) 300 [.code (bodyOf Try.f95)] ⟨padTo 19 [.vec 0 ao xs.length cap, .str v], [⟨.sl ao cap, .vecL 9 1 encS xs ByteArray.empty⟩]⟩) = (
K (frm [] (bodyOf Try.f95) [1, 0, 1, 0] [])
 (Sy.mk (SV.vec 0 ao (List.length xs) cap :: (SV.str v :: (SV.raw (Value.tuple #[]) :: (SV.raw (Value.tuple #[]) :: (SV.int IntKind.i64 (0 : Int) :: (SV.raw (Value.tuple #[]) :: (SV.vec 0 ao (List.length xs) cap :: (SV.int IntKind.i64 (↑(List.length xs) : Int) :: (SV.int IntKind.i64 (0 : Int) :: (rawE [] 10))))))))))
  [Ent.mk (Loc.sl ao cap) (SObj.vecL (9 : TypeId) 1 encS xs ByteArray.empty)])) := by kernel_rfl


theorem idxF_start (K : List Frm → Sy → Prop) (N : List Ent → SV → Prop) (ao : Option Addr) (cap b : Nat) (xs : List ByteArray) (nm : ByteArray) : (run Try.prog gT0 false [] K (retP Try.prog Try.f108.results.toList N) 300 [.code (bodyOf Try.f108)] ⟨padTo 19 [.vec 0 ao xs.length cap, .func (.func 91) [] [.ptr 1 b 0]], [⟨.sl ao cap, .vecL 9 1 encS xs ByteArray.empty⟩, ⟨.blk b, .cells [.str nm] 9⟩]⟩) = (
K (frm [] (bodyOf Try.f108) [1, 0, 1, 0] [])
 (Sy.mk (SV.vec 0 ao (List.length xs) cap :: (SV.func (Fn.func (91 : FuncId)) [] [SV.ptr 1 b 0] :: (SV.raw (Value.tuple #[]) :: (SV.raw (Value.tuple #[]) :: (SV.int IntKind.i64 (0 : Int) :: (SV.raw (Value.tuple #[]) :: (SV.vec 0 ao (List.length xs) cap :: (SV.int IntKind.i64 (↑(List.length xs) : Int) :: (SV.int IntKind.i64 (0 : Int) :: (rawE [] 10))))))))))
  [Ent.mk (Loc.sl ao cap) (SObj.vecL (9 : TypeId) 1 encS xs ByteArray.empty), Ent.mk (Loc.blk b) (SObj.cells [SV.str nm] (9 : TypeId))])) := by kernel_rfl


theorem has_run (K : List Frm → Sy → Prop) (N : List Ent → SV → Prop) (b : Nat) (es : List (Key × Unit)) (v : Int) : (run Try.prog [] false [] K (retP Try.prog Try.f71.results.toList N) 300 [.code (bodyOf Try.f71)] ⟨padTo 14 [.map 0 b, .int .i64 v], [⟨.blk b, .mapL (some .i64) encU es⟩]⟩) = (
(b = b ∧ some IntKind.i64 = some IntKind.i64 ∧ some IntKind.i64 = some IntKind.i64) ∧
 match mget es (Key.i IntKind.i64 v) with
 | some v =>
  ∀ (b_1 : Nat),
   (b_1 = b_1 ∧ true = true ∧ 0 = 0 ∧ 0 ≤ 0) ∧
    N [Ent.mk (Loc.blk b) (SObj.mapL (some IntKind.i64) encU es), Ent.mk (Loc.blk b_1) (SObj.cells [] 145)] (SV.bool true)
 | none =>
  ∀ (b_1 : Nat),
   (b_1 = b_1 ∧ true = true ∧ 0 = 0 ∧ 0 ≤ 0) ∧
    N [Ent.mk (Loc.blk b) (SObj.mapL (some IntKind.i64) encU es), Ent.mk (Loc.blk b_1) (SObj.cells [] 145)] (SV.bool false)) := by kernel_rfl
end Go.Proofs.Ytihajdkipkfiiaa

