import Derived.Test.YtkcmgcoppecfpaaProg
import Derived.Test.YtkcmgcoppecfpaaMgKernKills4
import Derived.Test.YtkcmgcoppecfpaaMgKernKills5
import Derived.Shelf.SlIterI.Nil
import Derived.Shelf.SlIter.Nil
import Derived.Shelf.SortM.Plain
import Derived.Shelf.SortM.SortNone
import Derived.Ground.GgzProg
import Derived.Ground.SlgmProg
import Derived.Shelf.SlGeneric
/- YtkcmgcoppecfpaaTab -/
/- Closed facts on the program's types (printed by wip/tools/tab.py). -/
namespace Go.Proofs.Ytkcmgcoppecfpaa
open Go
theorem tlay_2 : tlay Try.prog 2 = some (false, 1) := by kernel_rfl
theorem tlay_3 : tlay Try.prog 3 = some (false, 1) := by kernel_rfl
theorem tlay_4 : tlay Try.prog 4 = some (false, 1) := by kernel_rfl
theorem tlay_5 : tlay Try.prog 5 = some (false, 1) := by kernel_rfl
theorem tlay_9 : tlay Try.prog 9 = some (false, 1) := by kernel_rfl
theorem tlay_24 : tlay Try.prog 24 = some (false, 1) := by kernel_rfl
theorem tlay_27 : tlay Try.prog 27 = some (false, 1) := by kernel_rfl
theorem tlay_28 : tlay Try.prog 28 = some (false, 1) := by kernel_rfl
theorem tlay_32 : tlay Try.prog 32 = some (true, 4) := by kernel_rfl
theorem tlay_41 : tlay Try.prog 41 = some (true, 2) := by kernel_rfl
theorem tlay_49 : tlay Try.prog 49 = some (true, 2) := by kernel_rfl
theorem tlay_54 : tlay Try.prog 54 = some (false, 1) := by kernel_rfl
theorem tlay_56 : tlay Try.prog 56 = some (false, 1) := by kernel_rfl
theorem tlay_60 : tlay Try.prog 60 = some (false, 1) := by kernel_rfl
theorem tlay_62 : tlay Try.prog 62 = some (true, 2) := by kernel_rfl
theorem tlay_66 : tlay Try.prog 66 = some (false, 1) := by kernel_rfl
theorem tlay_69 : tlay Try.prog 69 = some (false, 1) := by kernel_rfl
theorem tlay_72 : tlay Try.prog 72 = some (true, 3) := by kernel_rfl
theorem tlay_75 : tlay Try.prog 75 = some (false, 1) := by kernel_rfl
theorem tlay_79 : tlay Try.prog 79 = some (true, 5) := by kernel_rfl
theorem tlay_83 : tlay Try.prog 83 = some (true, 3) := by kernel_rfl
theorem tlay_94 : tlay Try.prog 94 = some (false, 1) := by kernel_rfl
theorem tlay_98 : tlay Try.prog 98 = some (true, 9) := by kernel_rfl
theorem tlay_106 : tlay Try.prog 106 = some (false, 1) := by kernel_rfl
theorem tlay_108 : tlay Try.prog 108 = some (false, 1) := by kernel_rfl
theorem tlay_117 : tlay Try.prog 117 = some (false, 1) := by kernel_rfl
theorem tlay_123 : tlay Try.prog 123 = some (false, 1) := by kernel_rfl
theorem tlay_127 : tlay Try.prog 127 = some (false, 1) := by kernel_rfl
theorem tlay_143 : tlay Try.prog 143 = some (false, 1) := by kernel_rfl
theorem tlay_145 : tlay Try.prog 145 = some (false, 1) := by kernel_rfl
theorem tlay_146 : tlay Try.prog 146 = some (false, 1) := by kernel_rfl
theorem tlay_150 : tlay Try.prog 150 = some (true, 2) := by kernel_rfl
theorem tlay_160 : tlay Try.prog 160 = some (false, 1) := by kernel_rfl
theorem tlay_177 : tlay Try.prog 177 = some (false, 1) := by kernel_rfl
theorem tlay_179 : tlay Try.prog 179 = some (false, 1) := by kernel_rfl
theorem tlay_180 : tlay Try.prog 180 = some (false, 1) := by kernel_rfl
theorem tlay_193 : tlay Try.prog 193 = some (false, 1) := by kernel_rfl
theorem tlay_197 : tlay Try.prog 197 = some (true, 6) := by kernel_rfl
theorem tlay_205 : tlay Try.prog 205 = some (false, 1) := by kernel_rfl
theorem tlay_212 : tlay Try.prog 212 = some (false, 1) := by kernel_rfl
theorem tlay_214 : tlay Try.prog 214 = some (true, 6) := by kernel_rfl
theorem tlay_234 : tlay Try.prog 234 = some (true, 0) := by kernel_rfl
theorem tlay_257 : tlay Try.prog 257 = some (false, 1) := by kernel_rfl
theorem tlay_264 : tlay Try.prog 264 = some (false, 1) := by kernel_rfl
theorem tslice_22 : tslice Try.prog 22 = some (32, 4) := by kernel_rfl
theorem tslice_27 : tslice Try.prog 27 = some (62, 2) := by kernel_rfl
theorem tslice_28 : tslice Try.prog 28 = some (49, 2) := by kernel_rfl
theorem tslice_54 : tslice Try.prog 54 = some (41, 2) := by kernel_rfl
theorem tslice_56 : tslice Try.prog 56 = some (9, 1) := by kernel_rfl
theorem tslice_65 : tslice Try.prog 65 = some (5, 1) := by kernel_rfl
theorem tslice_69 : tslice Try.prog 69 = some (72, 3) := by kernel_rfl
theorem tslice_75 : tslice Try.prog 75 = some (3, 1) := by kernel_rfl
theorem tslice_92 : tslice Try.prog 92 = some (98, 9) := by kernel_rfl
theorem tslice_94 : tslice Try.prog 94 = some (79, 5) := by kernel_rfl
theorem tslice_121 : tslice Try.prog 121 = some (123, 1) := by kernel_rfl
theorem tslice_122 : tslice Try.prog 122 = some (2, 1) := by kernel_rfl
theorem tslice_205 : tslice Try.prog 205 = some (214, 6) := by kernel_rfl
theorem tplaces_30 : tplaces Try.prog 30 = some [(0, 1), (1, 1), (2, 1)] := by kernel_rfl
theorem tplaces_41 : tplaces Try.prog 41 = some [(0, 1), (1, 1)] := by kernel_rfl
theorem tplaces_49 : tplaces Try.prog 49 = some [(0, 1), (1, 1)] := by kernel_rfl
theorem tplaces_62 : tplaces Try.prog 62 = some [(0, 1), (1, 1)] := by kernel_rfl
theorem tplaces_72 : tplaces Try.prog 72 = some [(0, 1), (1, 1), (2, 1)] := by kernel_rfl
theorem tplaces_79 : tplaces Try.prog 79 = some [(0, 1), (1, 1), (2, 1), (3, 1), (4, 1)] := by kernel_rfl
theorem tplaces_96 : tplaces Try.prog 96 = some [(0, 1), (1, 1)] := by kernel_rfl
theorem tplaces_131 : tplaces Try.prog 131 = some [(0, 1), (1, 1), (2, 1)] := by kernel_rfl
theorem tplaces_135 : tplaces Try.prog 135 = some [(0, 1)] := by kernel_rfl
theorem tplaces_148 : tplaces Try.prog 148 = some [(0, 1), (1, 1)] := by kernel_rfl
theorem tplaces_150 : tplaces Try.prog 150 = some [(0, 1), (1, 1)] := by kernel_rfl
theorem tplaces_175 : tplaces Try.prog 175 = some [(0, 1), (1, 1), (2, 1), (3, 1), (4, 1), (5, 1)] := by kernel_rfl
theorem tplaces_182 : tplaces Try.prog 182 = some [(0, 1), (1, 1), (2, 1)] := by kernel_rfl
theorem tplaces_195 : tplaces Try.prog 195 = some [(0, 1), (1, 1), (2, 1)] := by kernel_rfl
theorem tplaces_197 : tplaces Try.prog 197 = some [(0, 1), (1, 1), (2, 1), (3, 1), (4, 1), (5, 1)] := by kernel_rfl
theorem tplaces_199 : tplaces Try.prog 199 = some [(0, 6), (6, 1), (7, 1)] := by kernel_rfl
theorem tplaces_207 : tplaces Try.prog 207 = some [(0, 1), (1, 1)] := by kernel_rfl
theorem tplaces_209 : tplaces Try.prog 209 = some [(0, 2), (2, 1)] := by kernel_rfl
theorem tplaces_214 : tplaces Try.prog 214 = some [(0, 5), (5, 1)] := by kernel_rfl
theorem tplaces_226 : tplaces Try.prog 226 = some [(0, 1), (1, 1), (2, 1)] := by kernel_rfl
theorem tplaces_234 : tplaces Try.prog 234 = some [] := by kernel_rfl
theorem tzero_2 : tzero Try.prog 2 = some [.int .i64 0] := by kernel_rfl
theorem tzero_3 : tzero Try.prog 3 = some [.int .i64 0] := by kernel_rfl
theorem tzero_4 : tzero Try.prog 4 = some [.bool false] := by kernel_rfl
theorem tzero_5 : tzero Try.prog 5 = some [.int .u8 0] := by kernel_rfl
theorem tzero_9 : tzero Try.prog 9 = some [.str ⟨#[]⟩] := by kernel_rfl
theorem tzero_30 : tzero Try.prog 30 = some [.raw (.slice none 0 0), .int .i64 0, .raw (.slice none 0 0)] := by kernel_rfl
theorem tzero_32 : tzero Try.prog 32 = some [.int .i64 0, .int .i64 0, .str ⟨#[]⟩, .str ⟨#[]⟩] := by kernel_rfl
theorem tzero_41 : tzero Try.prog 41 = some [.int .i64 0, .str ⟨#[]⟩] := by kernel_rfl
theorem tzero_49 : tzero Try.prog 49 = some [.int .i64 0, .str ⟨#[]⟩] := by kernel_rfl
theorem tzero_56 : tzero Try.prog 56 = some [.raw (.slice none 0 0)] := by kernel_rfl
theorem tzero_62 : tzero Try.prog 62 = some [.str ⟨#[]⟩, .raw (.slice none 0 0)] := by kernel_rfl
theorem tzero_69 : tzero Try.prog 69 = some [.raw (.slice none 0 0)] := by kernel_rfl
theorem tzero_72 : tzero Try.prog 72 = some [.str ⟨#[]⟩, .str ⟨#[]⟩, .int .i64 0] := by kernel_rfl
theorem tzero_76 : tzero Try.prog 76 = some [.raw (.slice none 0 0), .raw (.slice none 0 0), .raw (.slice none 0 0), .raw (.slice none 0 0), .raw (.slice none 0 0), .raw (.slice none 0 0), .raw (.slice none 0 0)] := by kernel_rfl
theorem tzero_79 : tzero Try.prog 79 = some [.int .i64 0, .int .i64 0, .int .i64 0, .str ⟨#[]⟩, .str ⟨#[]⟩] := by kernel_rfl
theorem tzero_83 : tzero Try.prog 83 = some [.str ⟨#[]⟩, .str ⟨#[]⟩, .str ⟨#[]⟩] := by kernel_rfl
theorem tzero_85 : tzero Try.prog 85 = some [.bool false, .bool false, .bool false, .bool false, .bool false, .bool false, .bool false, .bool false, .bool false, .bool false, .bool false, .bool false] := by kernel_rfl
theorem tzero_86 : tzero Try.prog 86 = some [.int .i64 0, .int .i64 0, .int .i64 0] := by kernel_rfl
theorem tzero_94 : tzero Try.prog 94 = some [.raw (.slice none 0 0)] := by kernel_rfl
theorem tzero_96 : tzero Try.prog 96 = some [.raw (.slice none 0 0), .raw (.slice none 0 0)] := by kernel_rfl
theorem tzero_98 : tzero Try.prog 98 = some [.int .i64 0, .int .i64 0, .int .i64 0, .int .i64 0, .str ⟨#[]⟩, .str ⟨#[]⟩, .str ⟨#[]⟩, .str ⟨#[]⟩, .int .i64 0] := by kernel_rfl
theorem tzero_123 : tzero Try.prog 123 = some [.int .u16 0] := by kernel_rfl
theorem tzero_131 : tzero Try.prog 131 = some [.raw (.map none), .raw (.slice none 0 0), .int .i64 0] := by kernel_rfl
theorem tzero_135 : tzero Try.prog 135 = some [.raw (.slice none 0 0)] := by kernel_rfl
theorem tzero_148 : tzero Try.prog 148 = some [.raw (.pointer none), .raw (.map none)] := by kernel_rfl
theorem tzero_150 : tzero Try.prog 150 = some [.str ⟨#[]⟩, .str ⟨#[]⟩] := by kernel_rfl
theorem tzero_175 : tzero Try.prog 175 = some [.raw (.pointer none), .raw (.pointer none), .raw (.pointer none), .raw (.pointer none), .int .i64 0, .int .i64 0] := by kernel_rfl
theorem tzero_182 : tzero Try.prog 182 = some [.raw (.map none), .raw (.map none), .raw (.slice none 0 0)] := by kernel_rfl
theorem tzero_195 : tzero Try.prog 195 = some [.raw (.map none), .int .i64 0, .int .i64 0] := by kernel_rfl
theorem tzero_197 : tzero Try.prog 197 = some [.int .i64 0, .int .i64 0, .str ⟨#[]⟩, .bool false, .int .i64 0, .str ⟨#[]⟩] := by kernel_rfl
theorem tzero_199 : tzero Try.prog 199 = some [.int .i64 0, .int .i64 0, .str ⟨#[]⟩, .bool false, .int .i64 0, .str ⟨#[]⟩, .bool false, .bool false] := by kernel_rfl
theorem tzero_207 : tzero Try.prog 207 = some [.raw (.slice none 0 0), .raw (.nilFunc)] := by kernel_rfl
theorem tzero_209 : tzero Try.prog 209 = some [.raw (.slice none 0 0), .raw (.nilFunc), .int .i64 0] := by kernel_rfl
theorem tzero_214 : tzero Try.prog 214 = some [.int .i64 0, .int .i64 0, .int .i64 0, .str ⟨#[]⟩, .str ⟨#[]⟩, .int .i64 0] := by kernel_rfl
theorem tzero_226 : tzero Try.prog 226 = some [.raw (.map none), .raw (.map none), .raw (.map none)] := by kernel_rfl
theorem tzero_234 : tzero Try.prog 234 = some [] := by kernel_rfl
theorem tzero_264 : tzero Try.prog 264 = some [.int .u64 0] := by kernel_rfl
theorem tfield_30_0 : tfield Try.prog 30 0 = some 0 := by kernel_rfl
theorem tfield_30_1 : tfield Try.prog 30 1 = some 1 := by kernel_rfl
theorem tfield_30_2 : tfield Try.prog 30 2 = some 2 := by kernel_rfl
theorem tfield_32_0 : tfield Try.prog 32 0 = some 0 := by kernel_rfl
theorem tfield_32_1 : tfield Try.prog 32 1 = some 1 := by kernel_rfl
theorem tfield_32_2 : tfield Try.prog 32 2 = some 2 := by kernel_rfl
theorem tfield_32_3 : tfield Try.prog 32 3 = some 3 := by kernel_rfl
theorem tfield_62_0 : tfield Try.prog 62 0 = some 0 := by kernel_rfl
theorem tfield_62_1 : tfield Try.prog 62 1 = some 1 := by kernel_rfl
theorem tfield_72_0 : tfield Try.prog 72 0 = some 0 := by kernel_rfl
theorem tfield_72_1 : tfield Try.prog 72 1 = some 1 := by kernel_rfl
theorem tfield_72_2 : tfield Try.prog 72 2 = some 2 := by kernel_rfl
theorem tfield_79_0 : tfield Try.prog 79 0 = some 0 := by kernel_rfl
theorem tfield_79_1 : tfield Try.prog 79 1 = some 1 := by kernel_rfl
theorem tfield_79_3 : tfield Try.prog 79 3 = some 3 := by kernel_rfl
theorem tfield_79_4 : tfield Try.prog 79 4 = some 4 := by kernel_rfl
theorem tfield_96_0 : tfield Try.prog 96 0 = some 0 := by kernel_rfl
theorem tfield_96_1 : tfield Try.prog 96 1 = some 1 := by kernel_rfl
theorem tfield_98_0 : tfield Try.prog 98 0 = some 0 := by kernel_rfl
theorem tfield_98_1 : tfield Try.prog 98 1 = some 1 := by kernel_rfl
theorem tfield_98_2 : tfield Try.prog 98 2 = some 6 := by kernel_rfl
theorem tfield_98_3 : tfield Try.prog 98 3 = some 7 := by kernel_rfl
theorem tfield_98_4 : tfield Try.prog 98 4 = some 8 := by kernel_rfl
theorem tfield_129_0 : tfield Try.prog 129 0 = some 0 := by kernel_rfl
theorem tfield_131_0 : tfield Try.prog 131 0 = some 0 := by kernel_rfl
theorem tfield_131_1 : tfield Try.prog 131 1 = some 1 := by kernel_rfl
theorem tfield_131_2 : tfield Try.prog 131 2 = some 2 := by kernel_rfl
theorem tfield_135_0 : tfield Try.prog 135 0 = some 0 := by kernel_rfl
theorem tfield_148_0 : tfield Try.prog 148 0 = some 0 := by kernel_rfl
theorem tfield_148_1 : tfield Try.prog 148 1 = some 1 := by kernel_rfl
theorem tfield_150_0 : tfield Try.prog 150 0 = some 0 := by kernel_rfl
theorem tfield_150_1 : tfield Try.prog 150 1 = some 1 := by kernel_rfl
theorem tfield_175_0 : tfield Try.prog 175 0 = some 0 := by kernel_rfl
theorem tfield_175_1 : tfield Try.prog 175 1 = some 1 := by kernel_rfl
theorem tfield_175_4 : tfield Try.prog 175 4 = some 4 := by kernel_rfl
theorem tfield_175_5 : tfield Try.prog 175 5 = some 5 := by kernel_rfl
theorem tfield_182_0 : tfield Try.prog 182 0 = some 0 := by kernel_rfl
theorem tfield_182_1 : tfield Try.prog 182 1 = some 1 := by kernel_rfl
theorem tfield_182_2 : tfield Try.prog 182 2 = some 2 := by kernel_rfl
theorem tfield_195_0 : tfield Try.prog 195 0 = some 0 := by kernel_rfl
theorem tfield_195_1 : tfield Try.prog 195 1 = some 1 := by kernel_rfl
theorem tfield_195_2 : tfield Try.prog 195 2 = some 2 := by kernel_rfl
theorem tfield_197_0 : tfield Try.prog 197 0 = some 0 := by kernel_rfl
theorem tfield_197_1 : tfield Try.prog 197 1 = some 1 := by kernel_rfl
theorem tfield_197_2 : tfield Try.prog 197 2 = some 2 := by kernel_rfl
theorem tfield_197_3 : tfield Try.prog 197 3 = some 3 := by kernel_rfl
theorem tfield_197_4 : tfield Try.prog 197 4 = some 4 := by kernel_rfl
theorem tfield_197_5 : tfield Try.prog 197 5 = some 5 := by kernel_rfl
theorem tfield_199_0 : tfield Try.prog 199 0 = some 0 := by kernel_rfl
theorem tfield_199_1 : tfield Try.prog 199 1 = some 6 := by kernel_rfl
theorem tfield_199_2 : tfield Try.prog 199 2 = some 7 := by kernel_rfl
theorem tfield_207_0 : tfield Try.prog 207 0 = some 0 := by kernel_rfl
theorem tfield_207_1 : tfield Try.prog 207 1 = some 1 := by kernel_rfl
theorem tfield_209_0 : tfield Try.prog 209 0 = some 0 := by kernel_rfl
theorem tfield_209_1 : tfield Try.prog 209 1 = some 2 := by kernel_rfl
theorem tfield_214_0 : tfield Try.prog 214 0 = some 0 := by kernel_rfl
theorem tfield_214_1 : tfield Try.prog 214 1 = some 5 := by kernel_rfl
theorem tfieldV_214_0 : tfieldV Try.prog 214 0 = some (0, true, 5) := by kernel_rfl
theorem tconc_212 : Try.prog.concrete 212 = true := by kernel_rfl
theorem tconc_214 : Try.prog.concrete 214 = true := by kernel_rfl
end Go.Proofs.Ytkcmgcoppecfpaa

/- YtkcmgcoppecfpaaGrpC -/
/- Groups (cgroup.Groups): what they hold; what their methods do. -/
namespace Go.Proofs.Ytkcmgcoppecfpaa
open Go Go.RowKit
set_option linter.unusedVariables false
set_option linter.unusedSimpArgs false

/-- The first place from i on at which p holds, or -1. -/
def idxFrom {α : Type} (p : α → Bool) : List α → Int → Int
  | [], _ => -1
  | x :: l, i => match p x with
    | true => i
    | false => idxFrom p l (i + 1)
def encS (x : ByteArray) : List SV := [.str x]
/-- slices.Index at texts. -/
def idxSC (T : TypeId) : Ctr := fun args hs N => match args with
  | [.vec l ao n cap, .str v] => ∃ xs : List ByteArray, nth hs l = some ⟨.sl ao cap, .vecL T 1 encS xs ByteArray.empty⟩ ∧ n = xs.length ∧ xs.length ≤ 1000000000 ∧ N hs (.int .i64 (idxFrom (sEq v) xs 0))
  | _ => False
/-- slices.DeleteFunc at texts, with a closure that asks for one text. -/
def delSC (T : TypeId) (g : FuncId) : Ctr := fun args hs N => match args with
  | [.vec l ao n cap, .func (.func f) [] [.ptr lb b 0]] => f = g ∧ ∃ (xs : List ByteArray) (nm : ByteArray), nth hs l = some ⟨.sl ao cap, .vecL T 1 encS xs ByteArray.empty⟩ ∧ nth hs lb = some ⟨.blk b, .cells [.str nm] T⟩ ∧ (Nat.beq l lb = false ∧ n = xs.length ∧ xs.length ≤ 1000000000) ∧
      N (setN hs l ⟨.sl ao cap, .vecL T 1 encS (xs.filter fun x => !sEq x nm) ByteArray.empty⟩) (.vec l ao (xs.filter fun x => !sEq x nm).length cap)
  | _ => False

abbrev GSet := Nat × List (Key × Unit)
structure Grp where
  (bg bo : Nat) (ao : Option Addr) (cap : Nat) (gs : List (Key × GSet)) (of : List (Key × ByteArray)) (notes : List ByteArray)
def encG (x : GSet) : SV := .map 4 x.1
def encU (_ : Unit) : SV := .agg []
def encO (x : ByteArray) : SV := .str x
def setE (e : Key × GSet) : Ent := ⟨.blk e.2.1, .mapL (some .i64) encU e.2.2⟩
def grpE (s : Grp) (b : Nat) : List Ent := [⟨.blk b, .cells [.map 1 s.bg, .map 2 s.bo, .vec 3 s.ao s.notes.length s.cap] 182⟩, ⟨.blk s.bg, .mapL none encG s.gs⟩, ⟨.blk s.bo, .mapL (some .i64) encO s.of⟩, ⟨.sl s.ao s.cap, .vecL 9 1 encS s.notes ByteArray.empty⟩, pk 0 (s.gs.map setE)]

def gMake (s : Grp) (name : ByteArray) (nb : Nat) : Grp × Int := match sEq name ⟨#[]⟩ with
  | true => (s, 90)
  | false => match mget s.gs (.s name) with
    | some _ => (s, 91)
    | none => ({ s with gs := mset s.gs (.s name) (nb, []) }, 0)
def gGone (s : Grp) (pid : Int) (ao : Option Addr) (cap : Nat) : Grp × Bool := match mget s.of (.i .i64 pid) with
  | none => (s, false)
  | some n => match mget s.gs (.s n) with
    | none => (s, false)
    | some x => match (mdel x.2 (.i .i64 pid)).length == 0 && !decide (idxFrom (sEq n) s.notes 0 ≥ 0) with
      | true => ({ s with of := mdel s.of (.i .i64 pid), gs := mset s.gs (.s n) (x.1, mdel x.2 (.i .i64 pid)), notes := s.notes ++ [n], ao := ao, cap := cap }, true)
      | false => ({ s with of := mdel s.of (.i .i64 pid), gs := mset s.gs (.s n) (x.1, mdel x.2 (.i .i64 pid)) }, true)
def gPut (s : Grp) (pid : Int) (name : ByteArray) (ao : Option Addr) (cap : Nat) : Grp × Int := match mget s.gs (.s name), decide (pid < 2) with
  | some x, false => match mget x.2 (.i .i64 pid) with
    | some _ => (s, 0)
    | none => match mget (gGone s pid ao cap).1.gs (.s name) with
      | some y => ({ (gGone s pid ao cap).1 with gs := mset (gGone s pid ao cap).1.gs (.s name) (y.1, mset y.2 (.i .i64 pid) ()), of := mset (gGone s pid ao cap).1.of (.i .i64 pid) name }, 0)
      | none => (s, 90)
  | _, _ => (s, 90)
def gRemove (s : Grp) (name : ByteArray) : Grp × Int := match mget s.gs (.s name) with
  | none => (s, 90)
  | some x => match decide ((x.2.length : Int) > 0) with
    | true => (s, 91)
    | false => ({ s with gs := mdel s.gs (.s name), notes := s.notes.filter fun x => !sEq x name }, 0)
/-- The first group of a list that is there and empty (or not there at all). -/
def firstEmpty (gs : List (Key × GSet)) : List ByteArray → List ByteArray × Option ByteArray
  | [] => ([], none)
  | n :: l => match (match mget gs (.s n) with | some x => x.2.length | none => 0) with
    | 0 => (l, some n)
    | _ + 1 => firstEmpty gs l
def gEmptied (s : Grp) (ao : Option Addr) (cap : Nat) : Grp × Option ByteArray := ({ s with notes := (firstEmpty s.gs s.notes).1, ao := ao, cap := cap }, (firstEmpty s.gs s.notes).2)
/-- What is noted of a process's group stands there. -/
def gOk (s : Grp) (pid : Int) : Prop := s.notes.length ≤ 100000000 ∧ ∀ n, mget s.of (.i .i64 pid) = some n → ∃ x, mget s.gs (.s n) = some x
def grpC := adtC grpE
def makeM (s : Grp) (args : List SV) (N : Grp → SV → Prop) : Prop := match args with
  | [.str name] => ∀ nb, N (gMake s name nb).1 (.int .i64 (gMake s name nb).2)
  | _ => False
def goneM (s : Grp) (args : List SV) (N : Grp → SV → Prop) : Prop := match args with
  | [.int .i64 pid] => gOk s pid ∧ ∀ ao cap, N (gGone s pid ao cap).1 (.bool (gGone s pid ao cap).2)
  | _ => False
def putM (s : Grp) (args : List SV) (N : Grp → SV → Prop) : Prop := match args with
  | [.int .i64 pid, .str name] => (gOk s pid ∧ keysOk s.gs) ∧ ∀ ao cap, N (gPut s pid name ao cap).1 (.int .i64 (gPut s pid name ao cap).2)
  | _ => False
def removeM (s : Grp) (args : List SV) (N : Grp → SV → Prop) : Prop := match args with
  | [.str name] => s.notes.length ≤ 100000000 ∧ N (gRemove s name).1 (.int .i64 (gRemove s name).2)
  | _ => False
def emptiedM (s : Grp) (args : List SV) (N : Grp → SV → Prop) : Prop := match args with
  | [] => ∀ ao cap, N (gEmptied s ao cap).1 (.tuple [.str ((gEmptied s ao cap).2.getD ⟨#[]⟩), .bool (gEmptied s ao cap).2.isSome])
  | _ => False
/-- cgroup.New. -/
def newGC : Ctr := fun args hs N => match args with
  | [] => ∀ b bg bo, N (snoc hs (pkA b grpE ⟨bg, bo, none, 0, [], [], []⟩)) (.ptr (lenN hs) b 0)
  | _ => False

def gT1 : Tbl := [(176, idxSC 9)]
def gT2 : Tbl := (163, inl Try.prog gT1 false Try.f163 100) :: (158, inl Try.prog [] false Try.f158 100) :: (159, inl Try.prog [] false Try.f159 100) :: gT1
/-- slices.IndexFunc at texts, with the closure that asks for one text. -/
def idxFC (T : TypeId) (g : FuncId) : Ctr := fun args hs N => match args with
  | [.vec l ao n cap, .func (.func f) [] [.ptr lb b 0]] => f = g ∧ ∃ (xs : List ByteArray) (nm : ByteArray), nth hs l = some ⟨.sl ao cap, .vecL T 1 encS xs ByteArray.empty⟩ ∧ nth hs lb = some ⟨.blk b, .cells [.str nm] T⟩ ∧ (Nat.beq l lb = false ∧ n = xs.length ∧ xs.length ≤ 1000000000) ∧
      N hs (.int .i64 (idxFrom (fun x => sEq x nm) xs 0))
  | _ => False
end Go.Proofs.Ytkcmgcoppecfpaa

/- YtkcmgcoppecfpaaLayP -/
/- Layings of the kit's contracts for slices.Sorted and maps.Keys at this program, in plain words. -/
namespace Go.Proofs.Ytkcmgcoppecfpaa
open Go.Shelf
def sortedI_ren : Go.Shelf.Ren := ⟨fun | 6 => 129 | 8 => 160 | 9 => 161 | 11 => 174 | 13 => 120 | 12 => 175 | 23 => 150 | 24 => 151 | 14 => 188 | 15 => 189 | 16 => 190 | 17 => 191 | 18 => 192 | 19 => 193 | 20 => 194 | 21 => 195 | 22 => 196 | 25 => 200 | 26 => 167 | 27 => 168 | 28 => 201 | 29 => 202 | 30 => 203 | 31 => 205 | n => n, fun | 26 => 3 | 28 => 188 | 24 => 75 | 0 => 0 | 3 => 3 | 37 => 221 | 48 => 253 | 50 => 255 | 4 => 4 | 40 => 247 | 39 => 246 | 45 => 136 | 5 => 5 | 9 => 9 | 51 => 264 | 55 => 268 | 57 => 281 | 58 => 38 | 33 => 235 | n => n, fun | n => n⟩
theorem sortedI : Go.Proofs.SlLaysZI.n6 Try.prog sortedI_ren := {
  mixed := by kernel_rfl
  f6 := ⟨Try.f129.name, by decide, Try.func129.trans (congrArg some (by kernel_rfl))⟩
  f8 := ⟨Try.f160.name, by decide, Try.func160.trans (congrArg some (by kernel_rfl))⟩
  f11 := ⟨Try.f174.name, by decide, Try.func174.trans (congrArg some (by kernel_rfl))⟩
  t0 := Try.underlying0
  a0 := Try.isAgg0
  z0 := Try.sizeOf0
  v0 := Try.zeroValue0
  t24 := Try.underlying75
  a24 := Try.isAgg75
  z24 := Try.sizeOf75
  v24 := Try.zeroValue75
  t26 := Try.underlying3
  a26 := Try.isAgg3
  z26 := Try.sizeOf3
  v26 := Try.zeroValue3
  t28 := Try.underlying188
  a28 := Try.isAgg188
  z28 := Try.sizeOf188
  v28 := Try.zeroValue188
  i26 := by kernel_rfl }
def sortI_lay_ren : Go.Shelf.Ren := ⟨fun | 5 => 161 | 8 => 120 | 7 => 175 | 19 => 150 | 20 => 151 | 10 => 188 | 11 => 189 | 12 => 190 | 13 => 191 | 14 => 192 | 15 => 193 | 16 => 194 | 17 => 195 | 18 => 196 | 30 => 200 | 31 => 167 | 32 => 168 | 33 => 201 | 34 => 202 | 35 => 203 | 40 => 205 | n => n, fun | 23 => 75 | 25 => 3 | 3 => 3 | 32 => 221 | 22 => 75 | 0 => 0 | 44 => 253 | 46 => 255 | 4 => 4 | 36 => 247 | 35 => 246 | 41 => 136 | 5 => 5 | 9 => 9 | 53 => 264 | 57 => 268 | 63 => 281 | 64 => 38 | n => n, fun | n => n⟩
theorem sortI_lay : Go.Proofs.SlLaysM.n5 Try.prog sortI_lay_ren := {
  mixed := by kernel_rfl
  f5 := ⟨Try.f161.name, by decide, Try.func161.trans (congrArg some (by kernel_rfl))⟩
  f7 := ⟨Try.f175.name, by decide, Try.func175.trans (congrArg some (by kernel_rfl))⟩
  f8 := Try.func120.trans (congrArg some (by kernel_rfl))
  f10 := ⟨Try.f188.name, by decide, Try.func188.trans (congrArg some (by kernel_rfl))⟩
  f11 := ⟨Try.f189.name, by decide, Try.func189.trans (congrArg some (by kernel_rfl))⟩
  f12 := ⟨Try.f190.name, by decide, Try.func190.trans (congrArg some (by kernel_rfl))⟩
  f13 := ⟨Try.f191.name, by decide, Try.func191.trans (congrArg some (by kernel_rfl))⟩
  f14 := ⟨Try.f192.name, by decide, Try.func192.trans (congrArg some (by kernel_rfl))⟩
  f15 := ⟨Try.f193.name, by decide, Try.func193.trans (congrArg some (by kernel_rfl))⟩
  f16 := ⟨Try.f194.name, by decide, Try.func194.trans (congrArg some (by kernel_rfl))⟩
  f17 := ⟨Try.f195.name, by decide, Try.func195.trans (congrArg some (by kernel_rfl))⟩
  f18 := ⟨Try.f196.name, by decide, Try.func196.trans (congrArg some (by kernel_rfl))⟩
  f19 := Try.func150.trans (congrArg some (by kernel_rfl))
  f20 := Try.func151.trans (congrArg some (by kernel_rfl))
  f30 := ⟨Try.f200.name, by decide, Try.func200.trans (congrArg some (by kernel_rfl))⟩
  f31 := Try.func167.trans (congrArg some (by kernel_rfl))
  f32 := Try.func168.trans (congrArg some (by kernel_rfl))
  f33 := ⟨Try.f201.name, by decide, Try.func201.trans (congrArg some (by kernel_rfl))⟩
  f34 := ⟨Try.f202.name, by decide, Try.func202.trans (congrArg some (by kernel_rfl))⟩
  f35 := ⟨Try.f203.name, by decide, Try.func203.trans (congrArg some (by kernel_rfl))⟩
  f40 := ⟨Try.f205.name, by decide, Try.func205.trans (congrArg some (by kernel_rfl))⟩
  t0 := Try.underlying0
  a0 := Try.isAgg0
  z0 := Try.sizeOf0
  v0 := Try.zeroValue0
  t3 := Try.underlying3
  a3 := Try.isAgg3
  z3 := Try.sizeOf3
  v3 := Try.zeroValue3
  t4 := Try.underlying4
  a4 := Try.isAgg4
  z4 := Try.sizeOf4
  v4 := Try.zeroValue4
  t5 := Try.underlying5
  a5 := Try.isAgg5
  z5 := Try.sizeOf5
  v5 := Try.zeroValue5
  t9 := Try.underlying9
  a9 := Try.isAgg9
  z9 := Try.sizeOf9
  v9 := Try.zeroValue9
  t22 := Try.underlying75
  a22 := Try.isAgg75
  z22 := Try.sizeOf75
  v22 := Try.zeroValue75
  t23 := Try.underlying75
  a23 := Try.isAgg75
  z23 := Try.sizeOf75
  v23 := Try.zeroValue75
  t25 := Try.underlying3
  a25 := Try.isAgg3
  z25 := Try.sizeOf3
  v25 := Try.zeroValue3
  t32 := Try.underlying221
  a32 := Try.isAgg221
  z32 := Try.sizeOf221
  v32 := Try.zeroValue221
  t35 := Try.underlying246
  a35 := Try.isAgg246
  z35 := Try.sizeOf246
  v35 := Try.zeroValue246
  t36 := Try.underlying247
  a36 := Try.isAgg247
  z36 := Try.sizeOf247
  v36 := Try.zeroValue247
  t41 := Try.underlying136
  a41 := Try.isAgg136
  z41 := Try.sizeOf136
  v41 := Try.zeroValue136
  t44 := Try.underlying253
  a44 := Try.isAgg253
  z44 := Try.sizeOf253
  v44 := Try.zeroValue253
  t46 := Try.underlying255
  a46 := Try.isAgg255
  z46 := Try.sizeOf255
  v46 := Try.zeroValue255
  t53 := Try.underlying264
  a53 := Try.isAgg264
  z53 := Try.sizeOf264
  v53 := Try.zeroValue264
  t57 := Try.underlying268
  a57 := Try.isAgg268
  z57 := Try.sizeOf268
  v57 := Try.zeroValue268
  t63 := Try.underlying281
  a63 := Try.isAgg281
  z63 := Try.sizeOf281
  v63 := Try.zeroValue281
  t64 := Try.underlying38
  a64 := Try.isAgg38
  z64 := Try.sizeOf38
  v64 := Try.zeroValue38 }
end Go.Proofs.Ytkcmgcoppecfpaa

/- YtkcmgcoppecfpaaSrt -/
/- slices.Sorted(maps.Keys(m)) at whole numbers: the keys, rising. -/
namespace Go.Proofs.Ytkcmgcoppecfpaa
open Go Go.RowKit Go.Maps Go.Sort Go.Shelf
set_option linter.unusedVariables false
set_option linter.unusedSimpArgs false
set_option linter.unnecessarySimpa false

def encI1 (x : Int) : List SV := [.int .i64 x]
def keyInt : Key → Int
  | .i _ n => n
  | .s _ => 0
/-- A map's keys, rising. -/
def sortI {β : Type} (es : List (Key × β)) : List Int := (es.map fun e => keyInt e.1).mergeSort leI
/-- Are they keys of the kind? -/
def wfI {β : Type} (es : List (Key × β)) : Prop := keysOk es ∧ es.length ≤ 1000000000 ∧ ∀ e ∈ es, (Lit.int .i64 (keyInt e.1)).wf = true
/-- slices.Sorted at what maps.Keys handed back. -/
def srtIC (fI T : Nat) : Ctr := fun args hs N => match args with
  | [.func (.func f) [] [.ptr lb b 0]] => f = fI ∧ match nth hs lb with
    | some ⟨.blk b', .cells [.map lm rm] _⟩ => match nth hs lm with
      | some ⟨.blk rm', .mapL (β := β) kd enc es⟩ => (b' = b ∧ rm' = rm ∧ kd = some .i64 ∧ wfI es) ∧ ∀ ao cap, N (snoc hs ⟨.sl ao cap, .vecL T 1 encI1 (sortI es) 0⟩) (.vec (lenN hs) ao (sortI es).length cap)
      | _ => False
    | _ => False
  | _ => False

/-- The heap grows: a new block. -/
theorem H.below {W w w' : World} {L : List Ch} (h : H W w L) (hb : Below w.heap.size w w') : H W w' L :=
  ⟨h.st.trans ⟨hb.os, hb.tape, hb.output, hb.size⟩, h.nd, fun b o hm => by
    have := h.get b o hm
    rw [hb.block b (Array.getElem?_eq_some_iff.1 this).1]; exact this, h.fresh, fun b hlt => by rw [hb.block b (Nat.lt_of_lt_of_le hlt h.st.size)]; exact h.old b hlt⟩
theorem H.grow {W w w' : World} {L : List Ch} {g : Nat} {o : Obj} (h : H W w L) (hb : Below w.heap.size w w') (hg : w.heap.size ≤ g) (ho : w'.heap[g]? = some o) : H W w' ([(g, o)] :: L) := by
  have h1 := h.below hb
  refine ⟨h1.st, ?_, fun b q hm => ?_, fun b q hm => ?_, h1.old⟩
  · simp only [List.flatten_cons, List.singleton_append, List.map_cons, List.nodup_cons]
    refine ⟨fun hm => ?_, h.nd⟩
    obtain ⟨⟨b, q⟩, hm, he⟩ := List.mem_map.1 hm
    have he : b = g := he
    have := (Array.getElem?_eq_some_iff.1 (h.get b q hm)).1
    omega
  · simp only [List.flatten_cons, List.singleton_append, List.mem_cons, Prod.mk.injEq] at hm
    rcases hm with ⟨rfl, rfl⟩ | hm
    · exact ho
    · exact h1.get b q hm
  · simp only [List.flatten_cons, List.singleton_append, List.mem_cons, Prod.mk.injEq] at hm
    rcases hm with ⟨rfl, rfl⟩ | hm
    · exact Nat.le_trans h.st.size hg
    · exact h1.fresh b q hm

/-- What a map of ours is to the kit. -/
theorem owns_of {w : World} {rm : Nat} {ents : List MapEntry} {clock k : Nat} {β : Type} {enc : β → SV} {es : List (Key × β)} (hk : Try.prog.underlying k = some (.int .i64)) (hh : w.heap[rm]? = some (.map ents.toArray clock)) (hst : Stamped ents clock) (he : ents.map (fun e => (e.key, e.val)) = es.map fun e => (den e.1.sv, den (enc e.2)))
    (hks : ∀ e ∈ es, keyKind e.1 = some .i64) (hw : wfI es) : ∃ D0 : DataW Unit, w.ownsMap Try.prog k (fun _ => some (.lit (.bool true), [])) rm es.length D0 ∧ (intKeys D0).Perm (es.map fun e => keyInt e.1) ∧ Maps.size D0 = es.length := by
  have hlen : ents.length = es.length := by simpa using congrArg List.length he
  have hkey : ∀ e ∈ es, den e.1.sv = .int .i64 (keyInt e.1) := fun e hm => by
    have := hks e hm
    cases hq : e.1 with
    | i kk n => rw [hq] at this; cases this; rfl
    | s _ => rw [hq] at this; cases this
  have hmem : ∀ x ∈ ents, ∃ e ∈ es, x.key = .int .i64 (keyInt e.1) := fun x hx => by
    have : (x.key, x.val) ∈ es.map fun e => (den e.1.sv, den (enc e.2)) := by rw [← he]; exact List.mem_map.2 ⟨x, hx, rfl⟩
    obtain ⟨e, h1, h2⟩ := List.mem_map.1 this
    simp only [Prod.mk.injEq] at h2
    exact ⟨e, h1, by rw [← h2.1, hkey e h1]⟩
  have hrg : ∀ x ∈ ents, ∃ n, x.key = .int .i64 n ∧ WideElems.rd Try.prog k (fun _ => some ((.lit (.bool true) : DataW Unit), [])) x = some (.int .i64 n, .lit (.bool true)) := fun x hx => by
    obtain ⟨e, h1, h2⟩ := hmem x hx
    exact ⟨_, h2, by simp [WideElems.rd, h2, keyOf_int_mk hk (hw.2.2 e h1)]⟩
  have hkeys : ents.map (fun x => x.key) = es.map fun e => (Value.int .i64 (keyInt e.1)) := by
    have h1 := congrArg (List.map Prod.fst) he
    simp only [List.map_map, Function.comp_def] at h1
    rw [h1]
    exact List.map_congr_left fun e hm => hkey e hm
  refine ⟨_, ⟨ents.toArray, clock, hh, ⟨?_, ?_, ?_⟩, by simp [hlen], rfl⟩, ?_, ?_⟩
  · have := hw.2.1; simp [hlen, maxLen]; omega
  · refine (MapKept.stamped_iff _ _).2 ⟨by simpa using hst.2, by simpa using hst.1, ?_⟩
    have h1 : (ents.map (fun x => x.key)).Pairwise (· ≠ ·) := by
      rw [hkeys, List.pairwise_map]
      refine hw.1.imp_of_mem fun {a b} ha hb hab e => ?_
      injection e with _ e
      have h2 := hks a ha
      have h3 := hks b hb
      cases a with | mk ka va => cases b with | mk kb vb =>
      cases ka <;> cases kb <;> simp_all [keyKind, keyEq, keyInt]
    simpa [List.pairwise_map] using h1
  · intro x hx
    obtain ⟨n, _, h2⟩ := hrg x (by simpa using hx)
    exact ⟨_, h2⟩
  · show (((ents.toArray.toList.map (WideElems.rg Try.prog k _)).foldr DataW.insert []).map fun p => Go.intOf p.1).Perm _
    refine ((Go.WideShapes.sorted_perm _).map _).trans ?_
    simp only [List.map_map]
    have : ents.map ((fun p : Lit × DataW Unit => Go.intOf p.1) ∘ WideElems.rg Try.prog k (fun _ => some (.lit (.bool true), []))) = es.map fun e => keyInt e.1 := by
      have h1 : ents.map ((fun p : Lit × DataW Unit => Go.intOf p.1) ∘ WideElems.rg Try.prog k (fun _ => some (.lit (.bool true), []))) = (ents.map (fun x => x.key)).map fun v => match v with | .int _ n => n | _ => 0 := by
        rw [List.map_map]
        refine List.map_congr_left fun x hx => ?_
        obtain ⟨n, h2, h3⟩ := hrg x hx
        simp [WideElems.rg, h3, h2, Go.intOf]
      rw [h1, hkeys, List.map_map]
      rfl
    rw [this]
  · show ((ents.toArray.toList.map (WideElems.rg Try.prog k _)).foldr DataW.insert []).length = _
    rw [(Go.WideShapes.sorted_perm _).length_eq]; simp [hlen]

theorem sortsI (m : Nat) : AnyZI.SortsIn Try.prog sortedI_ren Fence.wide m :=
  ⟨fun blk off cap ss W hH hblk hsz => callsIn_wide.2 (AnyM.slices_Sort_int sortI_lay blk off cap ss W hH hblk hsz), fun p cap W => callsIn_wide.2 (AnyM.slices_Sort_int_none sortI_lay p cap W)⟩

theorem flat_one : ∀ l : List Int, flatV encI1 l = l.map encZ
  | [] => rfl
  | x :: l => by
    have := flat_one l
    unfold flatV at this ⊢
    simp only [List.flatMap_cons, List.map_cons, this]
    rfl
theorem srtI_ok {fI T : Nat} (hT : T = 3) (hg : ∃ fn, Try.prog.funcs[fI]? = some fn ∧ (fn.name == "runtime.NumGoroutine") = false ∧ ∃ c, fn.body = some c)
    (hK : ∀ (w : World) (b rm nn : Nat) (D0 : DataW Unit), b < w.heap.size → w.cell? ⟨b, 0, none⟩ = some (.map (some rm)) → w.ownsMap Try.prog 3 (fun _ => some (.lit (.bool true), [])) rm nn D0 →
      SeqGives Fence.wide 2 Try.prog fI #[.pointer (some ⟨b, 0, none⟩)] encZ (fun ss => ss.Perm (intKeys D0)) (Maps.size D0) w) : CtrOk Try.prog 129 (srtIC fI T) := by
  subst hT
  intro args hs N h
  unfold srtIC at h
  split at h
  case h_2 => exact h.elim
  rename_i f lb b
  obtain ⟨rfl, h⟩ := h
  split at h
  case h_2 => exact h.elim
  rename_i b' lm rm T' hlb
  split at h
  case h_2 => exact h.elim
  rename_i rm' β kd enc es hlm
  obtain ⟨⟨rfl, rfl, rfl, hw⟩, h⟩ := h
  intro W F w hr
  obtain ⟨fn, g1, g2, c, g3⟩ := hg
  have hcell : w.cell? ⟨b', 0, none⟩ = some (.map (some rm')) := by rw [hr.cells hlb]; rfl
  have hb : b' < w.heap.size := World.block_lt_of_cell? _ _ hcell
  obtain ⟨c0, L0, hc0, hH0, _⟩ := hr.get hlm
  obtain ⟨hks, ents, clock, rfl, hst, he⟩ := hc0
  obtain ⟨D0, o1, o2, o3⟩ := owns_of (k := 3) Try.underlying3 (hH0.heap .here) hst he hks hw
  have hseq := hK w b' rm' es.length D0 hb hcell o1
  have hlen := hw.2.1
  have cS := AnyZI.sorted_in sortedI Fence.wide 5 trivial trivial trivial trivial rfl (by omega) (sortsI _) (enters_of Try.func161 (by kernel_rfl) rfl) f #[.pointer (some ⟨b', 0, none⟩)] trivial (enters_of g1 g2 g3) _ _ (by rw [o3]; unfold maxLen; omega) (by rw [o3]; omega) _ hseq
  refine Calls.mono ((callsIn_wide (n := 5)).1 cS) ?_
  rintro e w' ⟨v, ss, rfl, hS, hrow, hnil, hbel⟩
  have hsort : ss.mergeSort leI = sortI es := mergeSort_of_perm_i (hS.trans o2)
  have hls : ss.length = (sortI es).length := by rw [← hsort, (List.mergeSort_perm ss leI).length_eq]
  have hflat : flatV encI1 (sortI es) = (sortI es).map encZ := flat_one (sortI es)
  rcases hrow.2 with ⟨rfl, h0⟩ | ⟨g, cap, cur, rfl, hge, hgb, hle, hcap, hsz, htk⟩
  · have hnl : sortI es = [] := List.eq_nil_of_length_eq_zero (by omega)
    refine ⟨_, _, h none 0, by rw [hnl]; rfl, ?_⟩
    have hr' : Rep W F hs w' := hr.move fun L hL => hL.below hbel
    rw [hnl]
    exact Rep.nilvec _ (sz := 1) (enc := encI1) 0 (fun _ => rfl) hr'
  · refine ⟨_, _, h (some ⟨g, 0, none⟩) cap, by rw [hls]; rfl, ?_⟩
    refine hr.new (c := [(g, .cells cur _ (0, 0))]) ⟨⟨by rw [hflat]; simp, by omega, .inr ⟨g, 0, cur, rfl, rfl, by omega, ?_⟩⟩, fun _ => rfl⟩ fun L hL => hL.grow hbel hge hgb
    have e1 : (sortI es).length * 1 = ss.length * 1 := by rw [hls]
    rw [List.drop_zero, hflat, e1, htk, ← hsort]
end Go.Proofs.Ytkcmgcoppecfpaa

/- YtkcmgcoppecfpaaLayS -/
/- Layings of the kit's contracts for slices.Sorted and maps.Keys at this program, in plain words. -/
namespace Go.Proofs.Ytkcmgcoppecfpaa
open Go.Shelf
def sortedS_ren : Go.Shelf.Ren := ⟨fun | 6 => 111 | 8 => 136 | 9 => 137 | 11 => 164 | 13 => 120 | 12 => 165 | 23 => 150 | 24 => 151 | 14 => 177 | 15 => 178 | 16 => 179 | 17 => 180 | 18 => 181 | 19 => 182 | 20 => 183 | 21 => 184 | 22 => 185 | 25 => 197 | 26 => 167 | 27 => 168 | 28 => 198 | 29 => 199 | 30 => 122 | 31 => 204 | n => n, fun | 26 => 9 | 28 => 58 | 24 => 56 | 0 => 0 | 3 => 3 | 37 => 221 | 48 => 253 | 50 => 255 | 4 => 4 | 40 => 247 | 39 => 246 | 45 => 136 | 5 => 5 | 9 => 9 | 51 => 264 | 55 => 268 | 57 => 281 | 58 => 38 | 33 => 60 | n => n, fun | n => n⟩
theorem sortedS : Go.Proofs.SlLaysZ.n6 Try.prog sortedS_ren := {
  mixed := by kernel_rfl
  f6 := ⟨Try.f111.name, by decide, Try.func111.trans (congrArg some (by kernel_rfl))⟩
  f8 := ⟨Try.f136.name, by decide, Try.func136.trans (congrArg some (by kernel_rfl))⟩
  f11 := ⟨Try.f164.name, by decide, Try.func164.trans (congrArg some (by kernel_rfl))⟩
  t0 := Try.underlying0
  a0 := Try.isAgg0
  z0 := Try.sizeOf0
  v0 := Try.zeroValue0
  t24 := Try.underlying56
  a24 := Try.isAgg56
  z24 := Try.sizeOf56
  v24 := Try.zeroValue56
  t26 := Try.underlying9
  a26 := Try.isAgg9
  z26 := Try.sizeOf9
  v26 := Try.zeroValue9
  t28 := Try.underlying58
  a28 := Try.isAgg58
  z28 := Try.sizeOf58
  v28 := Try.zeroValue58
  i26 := by kernel_rfl }
def sortS_lay_ren : Go.Shelf.Ren := ⟨fun | 6 => 137 | 8 => 120 | 9 => 165 | 19 => 150 | 20 => 151 | 21 => 177 | 22 => 178 | 23 => 179 | 24 => 180 | 25 => 181 | 26 => 182 | 27 => 183 | 28 => 184 | 29 => 185 | 36 => 197 | 31 => 167 | 32 => 168 | 37 => 198 | 38 => 199 | 39 => 122 | 41 => 204 | n => n, fun | 27 => 56 | 29 => 9 | 3 => 3 | 32 => 221 | 26 => 56 | 0 => 0 | 44 => 253 | 46 => 255 | 4 => 4 | 36 => 247 | 35 => 246 | 41 => 136 | 5 => 5 | 9 => 9 | 53 => 264 | 57 => 268 | 63 => 281 | 64 => 38 | n => n, fun | n => n⟩
theorem sortS_lay : Go.Proofs.SlLaysM.n6 Try.prog sortS_lay_ren := {
  mixed := by kernel_rfl
  f6 := ⟨Try.f137.name, by decide, Try.func137.trans (congrArg some (by kernel_rfl))⟩
  f8 := Try.func120.trans (congrArg some (by kernel_rfl))
  f9 := ⟨Try.f165.name, by decide, Try.func165.trans (congrArg some (by kernel_rfl))⟩
  f19 := Try.func150.trans (congrArg some (by kernel_rfl))
  f20 := Try.func151.trans (congrArg some (by kernel_rfl))
  f21 := ⟨Try.f177.name, by decide, Try.func177.trans (congrArg some (by kernel_rfl))⟩
  f22 := ⟨Try.f178.name, by decide, Try.func178.trans (congrArg some (by kernel_rfl))⟩
  f23 := ⟨Try.f179.name, by decide, Try.func179.trans (congrArg some (by kernel_rfl))⟩
  f24 := ⟨Try.f180.name, by decide, Try.func180.trans (congrArg some (by kernel_rfl))⟩
  f25 := ⟨Try.f181.name, by decide, Try.func181.trans (congrArg some (by kernel_rfl))⟩
  f26 := ⟨Try.f182.name, by decide, Try.func182.trans (congrArg some (by kernel_rfl))⟩
  f27 := ⟨Try.f183.name, by decide, Try.func183.trans (congrArg some (by kernel_rfl))⟩
  f28 := ⟨Try.f184.name, by decide, Try.func184.trans (congrArg some (by kernel_rfl))⟩
  f29 := ⟨Try.f185.name, by decide, Try.func185.trans (congrArg some (by kernel_rfl))⟩
  f31 := Try.func167.trans (congrArg some (by kernel_rfl))
  f32 := Try.func168.trans (congrArg some (by kernel_rfl))
  f36 := ⟨Try.f197.name, by decide, Try.func197.trans (congrArg some (by kernel_rfl))⟩
  f37 := ⟨Try.f198.name, by decide, Try.func198.trans (congrArg some (by kernel_rfl))⟩
  f38 := ⟨Try.f199.name, by decide, Try.func199.trans (congrArg some (by kernel_rfl))⟩
  f39 := ⟨Try.f122.name, by decide, Try.func122.trans (congrArg some (by kernel_rfl))⟩
  f41 := ⟨Try.f204.name, by decide, Try.func204.trans (congrArg some (by kernel_rfl))⟩
  t0 := Try.underlying0
  a0 := Try.isAgg0
  z0 := Try.sizeOf0
  v0 := Try.zeroValue0
  t3 := Try.underlying3
  a3 := Try.isAgg3
  z3 := Try.sizeOf3
  v3 := Try.zeroValue3
  t4 := Try.underlying4
  a4 := Try.isAgg4
  z4 := Try.sizeOf4
  v4 := Try.zeroValue4
  t5 := Try.underlying5
  a5 := Try.isAgg5
  z5 := Try.sizeOf5
  v5 := Try.zeroValue5
  t9 := Try.underlying9
  a9 := Try.isAgg9
  z9 := Try.sizeOf9
  v9 := Try.zeroValue9
  t26 := Try.underlying56
  a26 := Try.isAgg56
  z26 := Try.sizeOf56
  v26 := Try.zeroValue56
  t27 := Try.underlying56
  a27 := Try.isAgg56
  z27 := Try.sizeOf56
  v27 := Try.zeroValue56
  t29 := Try.underlying9
  a29 := Try.isAgg9
  z29 := Try.sizeOf9
  v29 := Try.zeroValue9
  t32 := Try.underlying221
  a32 := Try.isAgg221
  z32 := Try.sizeOf221
  v32 := Try.zeroValue221
  t35 := Try.underlying246
  a35 := Try.isAgg246
  z35 := Try.sizeOf246
  v35 := Try.zeroValue246
  t36 := Try.underlying247
  a36 := Try.isAgg247
  z36 := Try.sizeOf247
  v36 := Try.zeroValue247
  t41 := Try.underlying136
  a41 := Try.isAgg136
  z41 := Try.sizeOf136
  v41 := Try.zeroValue136
  t44 := Try.underlying253
  a44 := Try.isAgg253
  z44 := Try.sizeOf253
  v44 := Try.zeroValue253
  t46 := Try.underlying255
  a46 := Try.isAgg255
  z46 := Try.sizeOf255
  v46 := Try.zeroValue255
  t53 := Try.underlying264
  a53 := Try.isAgg264
  z53 := Try.sizeOf264
  v53 := Try.zeroValue264
  t57 := Try.underlying268
  a57 := Try.isAgg268
  z57 := Try.sizeOf268
  v57 := Try.zeroValue268
  t63 := Try.underlying281
  a63 := Try.isAgg281
  z63 := Try.sizeOf281
  v63 := Try.zeroValue281
  t64 := Try.underlying38
  a64 := Try.isAgg38
  z64 := Try.sizeOf38
  v64 := Try.zeroValue38 }
end Go.Proofs.Ytkcmgcoppecfpaa

/- YtkcmgcoppecfpaaSrtS -/
/- slices.Sorted(maps.Keys(m)) at texts: the keys, rising. -/
namespace Go.Proofs.Ytkcmgcoppecfpaa
open Go Go.RowKit Go.Maps Go.Sort Go.Shelf
set_option linter.unusedVariables false
set_option linter.unusedSimpArgs false
set_option linter.unnecessarySimpa false

def encS1 (x : ByteArray) : List SV := [.str x]
def keyStr : Key → List UInt8
  | .i _ _ => []
  | .s b => b.data.toList
def ofB (l : List UInt8) : ByteArray := ⟨l.toArray⟩
/-- A map's keys, rising. -/
def sortS {β : Type} (es : List (Key × β)) : List ByteArray := ((es.map fun e => keyStr e.1).mergeSort leB).map ofB
/-- Are they keys of the kind? -/
def wfS {β : Type} (es : List (Key × β)) : Prop := keysOk es ∧ es.length ≤ 1000000000 ∧ ∀ e ∈ es, (keyStr e.1).length ≤ maxLen
/-- slices.Sorted at what maps.Keys handed back. -/
def srtSC (fI T : Nat) : Ctr := fun args hs N => match args with
  | [.func (.func f) [] [.ptr lb b 0]] => f = fI ∧ match nth hs lb with
    | some ⟨.blk b', .cells [.map lm rm] _⟩ => match nth hs lm with
      | some ⟨.blk rm', .mapL (β := β) kd enc es⟩ => (b' = b ∧ rm' = rm ∧ kd = none ∧ wfS es) ∧ ∀ ao cap, N (snoc hs ⟨.sl ao cap, .vecL T 1 encS1 (sortS es) ByteArray.empty⟩) (.vec (lenN hs) ao (sortS es).length cap)
      | _ => False
    | _ => False
  | _ => False

/-- What a map of ours is to the kit. -/
theorem ownsS_of {w : World} {rm : Nat} {ents : List MapEntry} {clock k : Nat} {β : Type} {enc : β → SV} {es : List (Key × β)} (hk : Try.prog.underlying k = some .string) (hh : w.heap[rm]? = some (.map ents.toArray clock)) (hst : Stamped ents clock) (he : ents.map (fun e => (e.key, e.val)) = es.map fun e => (den e.1.sv, den (enc e.2)))
    (hks : ∀ e ∈ es, keyKind e.1 = none) (hw : wfS es) : ∃ D0 : DataW Unit, w.ownsMap Try.prog k (fun _ => some (.lit (.bool true), [])) rm es.length D0 ∧ (strKeys D0).Perm (es.map fun e => keyStr e.1) ∧ Maps.size D0 = es.length := by
  have hlen : ents.length = es.length := by simpa using congrArg List.length he
  have hkey : ∀ e ∈ es, den e.1.sv = .string ⟨(keyStr e.1).toArray⟩ := fun e hm => by
    have := hks e hm
    cases hq : e.1 with
    | i kk n => rw [hq] at this; cases this
    | s b => simp [keyStr, Key.sv, den]
  have hmem : ∀ x ∈ ents, ∃ e ∈ es, x.key = .string ⟨(keyStr e.1).toArray⟩ := fun x hx => by
    have : (x.key, x.val) ∈ es.map fun e => (den e.1.sv, den (enc e.2)) := by rw [← he]; exact List.mem_map.2 ⟨x, hx, rfl⟩
    obtain ⟨e, h1, h2⟩ := List.mem_map.1 this
    simp only [Prod.mk.injEq] at h2
    exact ⟨e, h1, by rw [← h2.1, hkey e h1]⟩
  have hrg : ∀ x ∈ ents, ∃ n : List UInt8, x.key = .string ⟨n.toArray⟩ ∧ WideElems.rd Try.prog k (fun _ => some ((.lit (.bool true) : DataW Unit), [])) x = some (.string n, .lit (.bool true)) := fun x hx => by
    obtain ⟨e, h1, h2⟩ := hmem x hx
    refine ⟨_, h2, ?_⟩
    have hsz : (ByteArray.mk (keyStr e.1).toArray).size ≤ maxLen := by have := hw.2.2 e h1; simpa [ByteArray.size] using this
    have : Go.keyOf Try.prog k (.string ⟨(keyStr e.1).toArray⟩) = some (.string (keyStr e.1)) := by simp [Go.keyOf, hk, Go.mapKey, hsz]
    simp [WideElems.rd, h2, this]
  have hkeys : ents.map (fun x => x.key) = es.map fun e => (Value.string ⟨(keyStr e.1).toArray⟩) := by
    have h1 := congrArg (List.map Prod.fst) he
    simp only [List.map_map, Function.comp_def] at h1
    rw [h1]
    exact List.map_congr_left fun e hm => hkey e hm
  refine ⟨_, ⟨ents.toArray, clock, hh, ⟨?_, ?_, ?_⟩, by simp [hlen], rfl⟩, ?_, ?_⟩
  · have := hw.2.1; simp [hlen, maxLen]; omega
  · refine (MapKept.stamped_iff _ _).2 ⟨by simpa using hst.2, by simpa using hst.1, ?_⟩
    have h1 : (ents.map (fun x => x.key)).Pairwise (· ≠ ·) := by
      rw [hkeys, List.pairwise_map]
      refine hw.1.imp_of_mem fun {a b} ha hb hab e => ?_
      have e : keyStr a.1 = keyStr b.1 := by simpa using e
      have h2 := hks a ha
      have h3 := hks b hb
      cases a with | mk ka va => cases b with | mk kb vb =>
      cases ka with
      | i _ _ => cases h2
      | s x =>
        cases kb with
        | i _ _ => cases h3
        | s y =>
          have : x = y := by
            cases x; cases y
            simp [keyStr] at e
            rw [e]
          subst this
          simp [keyEq_self] at hab
    simpa [List.pairwise_map] using h1
  · intro x hx
    obtain ⟨n, _, h2⟩ := hrg x (by simpa using hx)
    exact ⟨_, h2⟩
  · show (((ents.toArray.toList.map (WideElems.rg Try.prog k _)).foldr DataW.insert []).map fun p => strOf p.1).Perm _
    refine ((Go.WideShapes.sorted_perm _).map _).trans ?_
    simp only [List.map_map]
    have : ents.map ((fun p : Lit × DataW Unit => strOf p.1) ∘ WideElems.rg Try.prog k (fun _ => some (.lit (.bool true), []))) = es.map fun e => keyStr e.1 := by
      have h1 : ents.map ((fun p : Lit × DataW Unit => strOf p.1) ∘ WideElems.rg Try.prog k (fun _ => some (.lit (.bool true), []))) = (ents.map (fun x => x.key)).map fun v => match v with | .string s => s.data.toList | _ => [] := by
        rw [List.map_map]
        refine List.map_congr_left fun x hx => ?_
        obtain ⟨n, h2, h3⟩ := hrg x hx
        simp [WideElems.rg, h3, h2, strOf]
      rw [h1, hkeys, List.map_map]
      refine List.map_congr_left fun e _ => ?_
      simp
    rw [this]
  · show ((ents.toArray.toList.map (WideElems.rg Try.prog k _)).foldr DataW.insert []).length = _
    rw [(Go.WideShapes.sorted_perm _).length_eq]; simp [hlen]

theorem sortsS (m : Nat) : AnyZ.SortsIn Try.prog sortedS_ren Fence.wide m :=
  ⟨fun blk off cap ss W hH hblk hsz => callsIn_wide.2 (AnyM.slices_Sort_string sortS_lay blk off cap ss W hH hblk hsz), fun p cap W => callsIn_wide.2 (AnyM.slices_Sort_string_none sortS_lay p cap W)⟩

theorem flat_strs : ∀ l : List (List UInt8), flatV encS1 (l.map ofB) = l.map encStr
  | [] => rfl
  | x :: l => by
    have := flat_strs l
    unfold flatV at this ⊢
    simp only [List.map_cons, List.flatMap_cons, this]
    rfl
theorem srtS_ok {fI T : Nat} (hT : T = 9) (hg : ∃ fn, Try.prog.funcs[fI]? = some fn ∧ (fn.name == "runtime.NumGoroutine") = false ∧ ∃ c, fn.body = some c)
    (hK : ∀ (w : World) (b rm nn : Nat) (D0 : DataW Unit), b < w.heap.size → w.cell? ⟨b, 0, none⟩ = some (.map (some rm)) → w.ownsMap Try.prog 9 (fun _ => some (.lit (.bool true), [])) rm nn D0 →
      SeqGives Fence.wide 2 Try.prog fI #[.pointer (some ⟨b, 0, none⟩)] encStr (fun ss => ss.Perm (strKeys D0)) (Maps.size D0) w) : CtrOk Try.prog 111 (srtSC fI T) := by
  subst hT
  intro args hs N h
  unfold srtSC at h
  split at h
  case h_2 => exact h.elim
  rename_i f lb b
  obtain ⟨rfl, h⟩ := h
  split at h
  case h_2 => exact h.elim
  rename_i b' lm rm T' hlb
  split at h
  case h_2 => exact h.elim
  rename_i rm' β kd enc es hlm
  obtain ⟨⟨rfl, rfl, rfl, hw⟩, h⟩ := h
  intro W F w hr
  obtain ⟨fn, g1, g2, c, g3⟩ := hg
  have hcell : w.cell? ⟨b', 0, none⟩ = some (.map (some rm')) := by rw [hr.cells hlb]; rfl
  have hb : b' < w.heap.size := World.block_lt_of_cell? _ _ hcell
  obtain ⟨c0, L0, hc0, hH0, _⟩ := hr.get hlm
  obtain ⟨hks, ents, clock, rfl, hst, he⟩ := hc0
  obtain ⟨D0, o1, o2, o3⟩ := ownsS_of (k := 9) Try.underlying9 (hH0.heap .here) hst he hks hw
  have hseq := hK w b' rm' es.length D0 hb hcell o1
  have hlen := hw.2.1
  have cS := AnyZ.sorted_in sortedS Fence.wide 5 trivial trivial trivial trivial rfl (by omega) (sortsS _) (enters_of Try.func137 (by kernel_rfl) rfl) f #[.pointer (some ⟨b', 0, none⟩)] trivial (enters_of g1 g2 g3) _ _ (by rw [o3]; unfold maxLen; omega) (by rw [o3]; omega) _ hseq
  refine Calls.mono ((callsIn_wide (n := 5)).1 cS) ?_
  rintro e w' ⟨v, ss, rfl, hS, hrow, hnil, hbel⟩
  have hsort : sortS es = (ss.mergeSort leB).map ofB := by unfold sortS; rw [mergeSort_of_perm (hS.trans o2)]
  have hls : ss.length = (sortS es).length := by rw [hsort, List.length_map, (List.mergeSort_perm ss leB).length_eq]
  have hflat : flatV encS1 (sortS es) = (ss.mergeSort leB).map encStr := by rw [hsort, flat_strs]
  rcases hrow.2 with ⟨rfl, h0⟩ | ⟨g, cap, cur, rfl, hge, hgb, hle, hcap, hsz, htk⟩
  · have hnl : sortS es = [] := List.eq_nil_of_length_eq_zero (by omega)
    refine ⟨_, _, h none 0, by rw [hnl]; rfl, ?_⟩
    have hr' : Rep W F hs w' := hr.move fun L hL => hL.below hbel
    rw [hnl]
    exact Rep.nilvec _ (sz := 1) (enc := encS1) ByteArray.empty (fun _ => rfl) hr'
  · refine ⟨_, _, h (some ⟨g, 0, none⟩) cap, by rw [hls]; rfl, ?_⟩
    refine hr.new (c := [(g, .cells cur _ (0, 0))]) ⟨⟨by rw [hflat]; simp [hls], by omega, .inr ⟨g, 0, cur, rfl, rfl, by omega, ?_⟩⟩, fun _ => rfl⟩ fun L hL => hL.grow hbel hge hgb
    have e1 : (sortS es).length * 1 = ss.length * 1 := by rw [hls]
    rw [List.drop_zero, hflat, e1, htk]
end Go.Proofs.Ytkcmgcoppecfpaa

/- YtkcmgcoppecfpaaGaC -/
/- cgroup.Groups: Of, Members, names, All. -/
namespace Go.Proofs.Ytkcmgcoppecfpaa
open Go Go.RowKit
set_option linter.unusedVariables false
set_option linter.unusedSimpArgs false
set_option linter.unnecessarySimpa false
set_option maxHeartbeats 0

/-- A group's members, if it is there. -/
def memG (s : Grp) (n : ByteArray) : List Int := match mget s.gs (.s n) with
  | some x => sortI x.2
  | none => []
def memGOk (s : Grp) (n : ByteArray) : Prop := ∀ x, mget s.gs (.s n) = some x → wfI x.2
def gofM (s : Grp) (args : List SV) (N : Grp → SV → Prop) : Prop := match args with
  | [.int .i64 pid] => N s (.tuple [.str ((mget s.of (.i .i64 pid)).getD ⟨#[]⟩), .bool (mget s.of (.i .i64 pid)).isSome])
  | _ => False
/-- Members: a row of its own. -/
def membersNC : Ctr := fun args hs N => match args with
  | [.ptr l b 0, .str name] => match nth hs l with
    | some ⟨.blk b', .adt (σ := σ') p s⟩ => b' = b ∧ ∃ h : σ' = Grp, AdtIs p grpE ∧ memGOk (cast h s) name ∧
        ∀ ao cap, N (snoc hs ⟨.sl ao cap, .vecL 3 1 encI1 (memG (cast h s) name) 0⟩) (.vec (lenN hs) ao (memG (cast h s) name).length cap)
    | _ => False
  | _ => False
/-- slices.Sorted at what maps.Keys handed back; the map may be none. -/
def srtQC (fI T : Nat) : Ctr := fun args hs N => match args with
  | [.func (.func f) [] [.ptr lb b 0]] => f = fI ∧ match nth hs lb with
    | some ⟨.blk b', .cells [.map lm rm] _⟩ => match nth hs lm with
      | some ⟨.blk rm', .mapL (β := β) kd enc es⟩ => (b' = b ∧ rm' = rm ∧ kd = some .i64 ∧ wfI es) ∧ ∀ ao cap, N (snoc hs ⟨.sl ao cap, .vecL T 1 encI1 (sortI es) 0⟩) (.vec (lenN hs) ao (sortI es).length cap)
      | _ => False
    | some ⟨.blk b', .cells [.raw (.map none)] _⟩ => b' = b ∧ ∀ ao cap, N (snoc hs ⟨.sl ao cap, .vecL T 1 encI1 [] 0⟩) (.vec (lenN hs) ao 0 cap)
    | _ => False
  | _ => False
def gaT0 : Tbl := [(130, inl Try.prog [] true Try.f130 100), (129, srtQC 162 3)]
def gaT : Tbl := (105, inl Try.prog gaT0 true Try.f105 200) :: gaT0
/-- names: a function over a row of its own. -/
def namesC : Ctr := fun args hs N => match args with
  | [.ptr l b 0] => match nth hs l with
    | some ⟨.blk b', .adt (σ := σ') p s⟩ => b' = b ∧ ∃ h : σ' = Grp, AdtIs p grpE ∧ wfS (cast h s).gs ∧
        ∀ ao cap bx, N (snoc (snoc hs ⟨.sl ao cap, .vecL 9 1 encS (sortS (cast h s).gs) ByteArray.empty⟩) ⟨.blk bx, .cells [.vec (lenN hs) ao (sortS (cast h s).gs).length cap] 56⟩) (.func (.func 135) [] [.ptr (lenN hs + 1) bx 0])
    | _ => False
  | _ => False
def gnT : Tbl := [(173, inl Try.prog [] true Try.f173 100), (111, srtSC 187 9), (110, inl Try.prog [] true Try.f110 100)]
/-- What the walk through the groups asks of the function that it is given. -/
def allGY (fv : Value) (s : Grp) (b : Nat) (ns : List ByteArray) (R : Nat → List Ent) (Stop : List Ent → Prop) : YCtr := fun v args hs N => v = fv ∧ match hs with
  | e0 :: e1 :: e2 :: e3 :: e4 :: e5 :: e6 :: rest => ∃ i x ao cap, ns[i]? = some x ∧ args = [.str x, .vec 6 ao (memG s x).length cap] ∧ e0 = pkA b grpE s ∧ e3 = pk 0 (R i) ∧ e6 = ⟨.sl ao cap, .vecL 3 1 encI1 (memG s x) 0⟩ ∧
      N (e0 :: e1 :: e2 :: pk 0 (R (i + 1)) :: e4 :: e5 :: e6 :: rest) (.bool true) ∧ ∀ R', Stop R' → N (e0 :: e1 :: e2 :: pk 0 R' :: e4 :: e5 :: e6 :: rest) (.bool false)
  | _ => False
end Go.Proofs.Ytkcmgcoppecfpaa

/- YtkcmgcoppecfpaaPrcC -/
/- Processes (proc.Table): what a table holds; what its methods do. -/
namespace Go.Proofs.Ytkcmgcoppecfpaa
open Go Go.RowKit
set_option linter.unusedVariables false

structure PR where
  (pid parent : Int) (group : ByteArray) (zombie : Bool) (status : Int) (cmd : ByteArray) (term kill : Bool)
def PR.zero : PR := ⟨0, 0, ⟨#[]⟩, false, 0, ⟨#[]⟩, false, false⟩
def encR (r : PR) : List SV := [.int .i64 r.pid, .int .i64 r.parent, .str r.group, .bool r.zombie, .int .i64 r.status, .str r.cmd, .bool r.term, .bool r.kill]
def encP6 (r : PR) : List SV := [.int .i64 r.pid, .int .i64 r.parent, .str r.group, .bool r.zombie, .int .i64 r.status, .str r.cmd]
structure PT where
  (bm : Nat) (ps : List (Nat × PR)) (room last : Int)
def encB1 (b : Nat) : SV := .ptr 2 b 0
def pkey (x : Nat × PR) : Key × Nat := (.i .i64 x.2.pid, x.1)
def procE (x : Nat × PR) : Ent := ⟨.blk x.1, .cells (encR x.2) 199⟩
def ptE (s : PT) (b : Nat) : List Ent := [⟨.blk b, .cells [.map 1 s.bm, .int .i64 s.room, .int .i64 s.last] 195⟩, ⟨.blk s.bm, .mapL (some .i64) encB1 (s.ps.map pkey)⟩, pk 0 (s.ps.map procE)]
def getP (ps : List (Nat × PR)) (pid : Int) : Option (Nat × PR) := ps.find? fun x => x.2.pid == pid
/-- One process is changed. -/
def setOne (pid : Int) (g : PR → PR) (x : Nat × PR) : Nat × PR := match x.2.pid == pid with
  | true => (x.1, g x.2)
  | false => x
def setP (ps : List (Nat × PR)) (pid : Int) (g : PR → PR) : List (Nat × PR) := ps.map (setOne pid g)
/-- Numbers rise; none is above the last one. -/
structure pOk (s : PT) : Prop where
  asc : s.ps.Pairwise fun x y => x.2.pid < y.2.pid
  le : ∀ x ∈ s.ps, 1 ≤ x.2.pid ∧ x.2.pid ≤ s.last
  last : s.last ≤ 1000000
  len : s.ps.length ≤ 1000000
  room : 0 ≤ s.room ∧ s.room ≤ 64
def pNew (room : Int) (bm bp : Nat) : PT := ⟨bm, [(bp, { PR.zero with pid := 1 })], mnI (mxI room 0) 64, 1⟩
def pHas (s : PT) (pid : Int) : Bool := (getP s.ps pid).isSome
def pGet (s : PT) (pid : Int) : PR := ((getP s.ps pid).map (·.2)).getD PR.zero
def pLive (s : PT) (pid : Int) : Bool := pHas s pid && !(pGet s pid).zombie
def pBegins (s : PT) (r : PR) (nb : Nat) : PT × Int × Int := match decide ((s.ps.length : Int) - 1 ≥ s.room) with
  | true => (s, 0, 81)
  | false => ({ s with ps := s.ps ++ [(nb, { r with pid := s.last + 1 })], last := s.last + 1 }, s.last + 1, 0)
def pSpawn (s : PT) (parent : Int) (group cmd : ByteArray) (nb : Nat) : PT × Int × Int := match pLive s parent with
  | true => pBegins s { PR.zero with parent := parent, group := group, cmd := cmd } nb
  | false => (s, 0, 80)
def pFork (s : PT) (pid : Int) (nb : Nat) : PT × Int × Int := match pLive s pid && !(pid == 1) && !(pGet s pid).kill with
  | true => pBegins s { PR.zero with parent := pid, group := (pGet s pid).group, cmd := (pGet s pid).cmd } nb
  | false => (s, 0, 80)
def stOf (status : Int) : Int := match decide (status < -64) || decide (status > 255) with
  | true => 255
  | false => status
/-- Children become the first one's. -/
def orphan (pid : Int) (r : PR) : PR := match r.parent == pid with
  | true => { r with parent := 1 }
  | false => r
def pExit (s : PT) (pid status : Int) : PT × Int := match pLive s pid && !(pid == 1) with
  | true => ({ s with ps := (setP s.ps pid fun r => { r with zombie := true, status := stOf status }).map fun x => (x.1, orphan pid x.2) }, 0)
  | false => (s, 80)
def pKill (s : PT) (pid sig : Int) : PT × Int := match pLive s pid && !(pid == 1) with
  | true => match sig == 15 with
    | true => ({ s with ps := setP s.ps pid fun r => { r with term := true } }, 0)
    | false => match sig == 9 with
      | true => ({ s with ps := setP s.ps pid fun r => { r with kill := true } }, 0)
      | false => (s, 80)
  | false => (s, 80)
/-- The first child that has ended. -/
def deadOf (s : PT) (parent : Int) : Option (Nat × PR) := s.ps.find? fun x => x.2.zombie && x.2.parent == parent
def pReap (s : PT) (parent : Int) : PT × PR × Int := match deadOf s parent with
  | some x => ({ s with ps := s.ps.filter fun y => !(y.2.pid == x.2.pid) }, x.2, 0)
  | none => (s, PR.zero, 80)

def spawnM (s : PT) (args : List SV) (N : PT → SV → Prop) : Prop := match args with
  | [.int .i64 parent, .str group, .str cmd] => pOk s ∧ ∀ nb, N (pSpawn s parent group cmd nb).1 (.tuple [.int .i64 (pSpawn s parent group cmd nb).2.1, .int .i64 (pSpawn s parent group cmd nb).2.2])
  | _ => False
def forkM (s : PT) (args : List SV) (N : PT → SV → Prop) : Prop := match args with
  | [.int .i64 pid] => pOk s ∧ ∀ nb, N (pFork s pid nb).1 (.tuple [.int .i64 (pFork s pid nb).2.1, .int .i64 (pFork s pid nb).2.2])
  | _ => False
def exitM (s : PT) (args : List SV) (N : PT → SV → Prop) : Prop := match args with
  | [.int .i64 pid, .int .i64 status] => pOk s ∧ N (pExit s pid status).1 (.int .i64 (pExit s pid status).2)
  | _ => False
def killM (s : PT) (args : List SV) (N : PT → SV → Prop) : Prop := match args with
  | [.int .i64 pid, .int .i64 sig] => pOk s ∧ N (pKill s pid sig).1 (.int .i64 (pKill s pid sig).2)
  | _ => False
def signalsM (s : PT) (args : List SV) (N : PT → SV → Prop) : Prop := match args with
  | [.int .i64 pid] => pOk s ∧ N s (.tuple [.bool (pGet s pid).term, .bool (pGet s pid).kill])
  | _ => False
def getM (s : PT) (args : List SV) (N : PT → SV → Prop) : Prop := match args with
  | [.int .i64 pid] => pOk s ∧ N s (.tuple [.agg (encP6 (pGet s pid)), .bool (pHas s pid)])
  | _ => False
def lenM (s : PT) (args : List SV) (N : PT → SV → Prop) : Prop := match args with
  | [] => pOk s ∧ N s (.int .i64 ((s.ps.length : Int) - 1))
  | _ => False
def reapM (s : PT) (args : List SV) (N : PT → SV → Prop) : Prop := match args with
  | [.int .i64 parent] => pOk s ∧ N (pReap s parent).1 (.tuple [.agg (encP6 (pReap s parent).2.1), .int .i64 (pReap s parent).2.2])
  | _ => False
/-- proc.New. -/
def newPC : Ctr := fun args hs N => match args with
  | [.int .i64 room] => ∀ b bm bp, N (snoc hs (pkA b ptE (pNew room bm bp))) (.ptr (lenN hs) b 0)
  | _ => False
def ptL : Tbl := [(126, inl Try.prog [] false Try.f126 200), (157, inl Try.prog [] false Try.f157 200)]
def ptB : Tbl := (127, inl Try.prog ptL true Try.f127 400) :: ptL
end Go.Proofs.Ytkcmgcoppecfpaa

/- YtkcmgcoppecfpaaKnC -/
/- kern.Kernel: what its methods do. -/
namespace Go.Proofs.Ytkcmgcoppecfpaa
open Go Go.RowKit
set_option linter.unusedVariables false
set_option linter.unusedSimpArgs false
set_option linter.unnecessarySimpa false
set_option maxHeartbeats 0

/-- A row of whole numbers, rising (computed by going through it). -/
def insQ (x : Int) : List Int → List Int
  | [] => [x]
  | y :: l => match decide (x ≤ y) with
    | true => x :: y :: l
    | false => y :: insQ x l
def sortQ : List Int → List Int
  | [] => []
  | x :: l => insQ x (sortQ l)
/-- A group's members, rising. -/
def memQ (s : Grp) (n : ByteArray) : List Int := match mget s.gs (.s n) with
  | some x => sortQ (x.2.map fun e => keyInt e.1)
  | none => []
/-- What the walk through the groups asks. -/
def gsOk (s : Grp) : Prop := wfS s.gs ∧ s.gs.length ≤ 1000000 ∧ (∀ e ∈ s.gs, keyKind e.1 = none) ∧ ∀ n x, mget s.gs (.s n) = some x → wfI x.2 ∧ x.2.length ≤ 1000000
/-- Is the group there? -/
def groupedC : Ctr := fun args hs N => match args with
  | [.ptr l b 0, .str g] => match nth hs l with
    | some ⟨.blk b', .cells [_, .ptr lg bg 0, _, _, _, _] T⟩ => (b' = b ∧ T = 175 ∧ Nat.beq l lg = false) ∧ match nth hs lg with
      | some ⟨.blk bg', .adt (σ := σ') p s⟩ => bg' = bg ∧ ∃ h : σ' = Grp, AdtIs p grpE ∧ gsOk (cast h s) ∧ N hs (.bool (mget (cast h s).gs (.s g)).isSome)
      | _ => False
    | _ => False
  | _ => False
def kgF (sig : Int) (a : PT × Int) (p : Int) : PT × Int := ((pKill a.1 p sig).1, match (pKill a.1 p sig).2 == 0 with
  | true => a.2 + 1
  | false => a.2)
/-- A signal to all of a row. -/
def kgAll (pt : PT) (sig : Int) (ms : List Int) : PT × Int := ms.foldl (kgF sig) (pt, 0)
def killGC : Ctr := fun args hs N => match args with
  | [.ptr l b 0, .str g, .int .i64 sig] => match nth hs l with
    | some ⟨.blk b', .cells [.ptr lp bp 0, .ptr lg bg 0, _, _, _, _] T⟩ => (b' = b ∧ T = 175 ∧ distinct [l, lp, lg] = true) ∧ match nth hs lp with
      | some ⟨.blk bp', .adt (σ := σp) pp pt⟩ => match nth hs lg with
        | some ⟨.blk bg', .adt (σ := σg) pg s⟩ => (bp' = bp ∧ bg' = bg) ∧ ∃ h1 : σp = PT, ∃ h2 : σg = Grp, AdtIs pp ptE ∧ AdtIs pg grpE ∧ (pOk (cast h1 pt) ∧ gsOk (cast h2 s)) ∧
            N (setN hs lp (pkA bp ptE (kgAll (cast h1 pt) sig (memQ (cast h2 s) g)).1)) (.int .i64 (kgAll (cast h1 pt) sig (memQ (cast h2 s) g)).2)
        | _ => False
      | _ => False
    | _ => False
  | _ => False
/-- span.Add. -/
def foreverI : Int := 9223372036854775807
def addS (a c : Int) : Int := match a == foreverI || c == foreverI with
  | true => foreverI
  | false => match decide (a > 0) && decide (c > 0) && decide (IntKind.wrap .i64 (a + c) < 0) with
    | true => foreverI
    | false => match decide (a < 0) && decide (c < 0) && decide (IntKind.wrap .i64 (a + c) ≥ 0) with
      | true => -9223372036854775808
      | false => IntKind.wrap .i64 (a + c)
def addC : Ctr := fun args hs N => match args with
  | [.int .i64 a, .int .i64 c] => N hs (.int .i64 (addS a c))
  | _ => False
/-- Time goes by. -/
def tickC : Ctr := fun args hs N => match args with
  | [.ptr l b 0, .int .i64 n] => match nth hs l with
    | some ⟨.blk b', .cells [c0, c1, c2, c3, .int .i64 m, .int .i64 w] T⟩ => (b' = b ∧ T = 175) ∧ match decide (n < 0) with
      | true => N hs (.int .i64 10)
      | false => N (setN hs l ⟨.blk b, .cells [c0, c1, c2, c3, .int .i64 (addS m n), .int .i64 (addS w n)] 175⟩) (.int .i64 0)
    | _ => False
  | _ => False
/-- Members, by what can be computed. -/
def membersQC : Ctr := fun args hs N => match args with
  | [.ptr l b 0, .str name] => match nth hs l with
    | some ⟨.blk b', .adt (σ := σ') p s⟩ => b' = b ∧ ∃ h : σ' = Grp, AdtIs p grpE ∧ memGOk (cast h s) name ∧
        ∀ ao cap, N (snoc hs ⟨.sl ao cap, .vecL 3 1 encI1 (memQ (cast h s) name) 0⟩) (.vec (lenN hs) ao (memQ (cast h s) name).length cap)
    | _ => False
  | _ => False
/-- Of what is made here nothing is asked any more. -/
def newAnyC : Ctr := fun args hs N => match args with
  | [] => ∀ v, N hs (.raw (.pointer v))
  | _ => False
def knA : Tbl := [(109, addC)]
def knJ : Tbl := [(128, adtC grpE putM)]
def knS : Tbl := [(100, groupedC), (101, adtC ptE spawnM), (102, inl Try.prog knJ true Try.f102 300)]
def knF : Tbl := [(103, adtC grpE gofM), (104, adtC ptE forkM), (102, inl Try.prog knJ true Try.f102 300)]
def knE : Tbl := [(133, adtC ptE exitM), (134, adtC grpE goneM)]
def knD : Tbl := [(65, adtC ptE signalsM), (108, inl Try.prog knE true Try.f108 300)]
def knN : Tbl := [(97, newPC), (98, newGC), (11, newAnyC), (99, newAnyC)]
def knT : Tbl := [(55, inl Try.prog knN true Try.f55 300), (56, inl Try.prog [] true Try.f56 200), (64, inl Try.prog [] true Try.f64 200), (68, inl Try.prog [] true Try.f68 200), (69, inl Try.prog [] true Try.f69 200), (67, tickC), (58, inl Try.prog knS true Try.f58 400), (59, inl Try.prog knF true Try.f59 400), (62, inl Try.prog knD true Try.f62 400), (61, killGC), (57, adtC grpE makeM), (60, membersQC), (63, adtC grpE emptiedM), (65, adtC ptE signalsM)]
/-- .. and the clock may be set. -/
def knTJ : Tbl := (66, inl Try.prog [] true Try.f66 200) :: knT
end Go.Proofs.Ytkcmgcoppecfpaa

/- YtkcmgcoppecfpaaRaw -/
/- Slots of which nothing is said, in short. -/
namespace Go.Proofs.Ytkcmgcoppecfpaa
open Go Go.RowKit
/-- n slots from the k-th one on, ahead of t. -/
def rawR (u : Nat → Value) (k : Nat) (t : List SV) : Nat → List SV
  | 0 => t
  | n + 1 => SV.raw (u k) :: rawR u (k + 1) t n
/-- n empty slots ahead of t. -/
def rawE (t : List SV) : Nat → List SV
  | 0 => t
  | n + 1 => SV.raw (Value.tuple #[]) :: rawE t n
end Go.Proofs.Ytkcmgcoppecfpaa

/- YtkcmgcoppecfpaaKn1Run -/
namespace Go.Proofs.Ytkcmgcoppecfpaa
set_option linter.unusedVariables false
open Go Go.RowKit
set_option maxHeartbeats 0
set_option maxRecDepth 100000
set_option linter.unusedVariables false
set_option maxRecDepth 100000

theorem kg_start (K : List Frm → Sy → Prop) (X : Code → Sy → Prop) (E : Sy → Prop) (b : Nat) (c0 c2 c3 c4 c5 : SV) (bg : Nat) (s : Grp) (g : ByteArray) : (runR Try.prog [(125, inl Try.prog [] true Try.f125 200)] (noY) true [] K X E 300 [.code (bodyOf Try.f100)] ⟨padTo 16 [.ptr 0 b 0, .str g], [⟨.blk b, .cells [c0, .ptr 1 bg 0, c2, c3, c4, c5] 175⟩, pkA bg grpE s]⟩) = (
true = true ∧
 ∀ (b_1 b_2 : Nat),
  b = b ∧
   true = true ∧
    true = true ∧
     ∀ (b_3 : Nat),
      K (frm [] (bodyOf Try.f100) [1, 0, 1, 0] [])
       (Sy.mk (SV.ptr 0 b 0 :: (SV.str g :: (SV.raw (Value.tuple #[]) :: (SV.ptr 2 b_1 0 :: (SV.ptr 3 b_2 0 :: (SV.raw (Value.tuple #[]) :: (SV.ptr 0 b 0 :: (SV.ptr 0 b 0 :: (SV.ptr 0 b 1 :: (SV.ptr 1 bg 0 :: (SV.func (Fn.func 155) [] [SV.ptr 4 b_3 0] :: (rawE [] 5))))))))))))
        [Ent.mk (Loc.blk b) (SObj.cells [c0, SV.ptr 1 bg 0, c2, c3, c4, c5] (175 : TypeId)), pkA bg grpE s, Ent.mk (Loc.blk b_1) (SObj.cells [SV.str g] 9),
         Ent.mk (Loc.blk b_2) (SObj.cells [SV.bool false] 4), Ent.mk (Loc.blk b_3) (SObj.cells [SV.ptr 1 bg 0] 108)])) := by kernel_rfl


theorem kg_asg (K : List Frm → Sy → Prop) (X : Code → Sy → Prop) (E : Sy → Prop) (b : Nat) (c0 c2 c3 c4 c5 : SV) (bg : Nat) (s : Grp) (g : ByteArray) (b3 b4 D l : Nat) (rc : Loop) (x : ByteArray) (ao : Option Addr) (n cap : Nat) (ms : List Int) (u : Nat → Value) : (runR Try.prog [] (noY) true [] K X E 60 ([.code (rfA (codeAt (bodyOf Try.f100) [1, 0, 1, 0]))]) ⟨mkT u 16 0 [(3, .ptr 2 b3 0), (4, .ptr 3 b4 0), (11, .str x), (12, .vec 6 ao n cap)], [pkA bg grpE s, ⟨.blk b, .cells [c0, .ptr 0 bg 0, c2, c3, c4, c5] 175⟩, ⟨.blk b3, .cells [.str g] 9⟩, ⟨.blk b4, .cells [.bool false] 4⟩, dent D true, lp l rc .ready none, ⟨.sl ao cap, .vecL 3 1 encI1 ms 0⟩]⟩) = (
E
 (Sy.mk (rawR u 0 (SV.ptr 2 b3 0 :: (SV.ptr 3 b4 0 :: (SV.str x :: (rawR u 6 (SV.str x :: (SV.vec 6 ao n cap :: (rawR u 13 [] 3))) 5)))) 3)
  [pkA bg grpE s, Ent.mk (Loc.blk b) (SObj.cells [c0, SV.ptr 0 bg 0, c2, c3, c4, c5] (175 : TypeId)), Ent.mk (Loc.blk b3) (SObj.cells [SV.str g] (9 : TypeId)),
   Ent.mk (Loc.blk b4) (SObj.cells [SV.bool false] (4 : TypeId)), dent D true, lp l rc LoopState.ready (@none Code), Ent.mk (Loc.sl ao cap) (SObj.vecL (3 : TypeId) 1 encI1 ms (0 : Int))])) := by kernel_rfl


theorem kg_body (K : List Frm → Sy → Prop) (X : Code → Sy → Prop) (E : Sy → Prop) (b : Nat) (c0 c2 c3 c4 c5 : SV) (bg : Nat) (s : Grp) (g : ByteArray) (b3 b4 D l : Nat) (rc : Loop) (x : ByteArray) (ao : Option Addr) (cap : Nat) (ms : List Int) (u : Nat → Value) : (runR Try.prog [] (noY) true [] K X E 600 ([.code (rfB (codeAt (bodyOf Try.f100) [1, 0, 1, 0]))]) ⟨mkT u 16 0 [(3, .ptr 2 b3 0), (4, .ptr 3 b4 0), (5, .str x)], [pkA bg grpE s, ⟨.blk b, .cells [c0, .ptr 0 bg 0, c2, c3, c4, c5] 175⟩, ⟨.blk b3, .cells [.str g] 9⟩, ⟨.blk b4, .cells [.bool false] 4⟩, dent D true, lp l rc .busy none, ⟨.sl ao cap, .vecL 3 1 encI1 ms 0⟩]⟩) = (
b3 = b3 ∧
 match sEq x g with
 | true =>
  (b4 = b4 ∧ true = true ∧ 1 = 1 ∧ 1 ≤ 1) ∧
   X Code.ret
    (Sy.mk (rawR u 0 (SV.ptr 2 b3 0 :: (SV.ptr 3 b4 0 :: (SV.str x :: (rawR u 6 (SV.str x :: (SV.str g :: (SV.bool true :: []))) 7)))) 3)
     [pkA bg grpE s, Ent.mk (Loc.blk b) (SObj.cells [c0, SV.ptr 0 bg 0, c2, c3, c4, c5] (175 : TypeId)), Ent.mk (Loc.blk b3) (SObj.cells [SV.str g] (9 : TypeId)),
      Ent.mk (Loc.blk b4) (SObj.cells [SV.bool true] (4 : TypeId)), dent D true, lp l rc LoopState.busy (@none Code),
      Ent.mk (Loc.sl ao cap) (SObj.vecL (3 : TypeId) 1 encI1 ms (0 : Int))])
 | false =>
  E
   (Sy.mk (rawR u 0 (SV.ptr 2 b3 0 :: (SV.ptr 3 b4 0 :: (SV.str x :: (rawR u 6 (SV.str x :: (SV.str g :: (SV.bool false :: []))) 7)))) 3)
    [pkA bg grpE s, Ent.mk (Loc.blk b) (SObj.cells [c0, SV.ptr 0 bg 0, c2, c3, c4, c5] (175 : TypeId)), Ent.mk (Loc.blk b3) (SObj.cells [SV.str g] (9 : TypeId)),
     Ent.mk (Loc.blk b4) (SObj.cells [SV.bool false] (4 : TypeId)), dent D true, lp l rc LoopState.busy (@none Code),
     Ent.mk (Loc.sl ao cap) (SObj.vecL (3 : TypeId) 1 encI1 ms (0 : Int))])) := by kernel_rfl


theorem kg_end (K : List Frm → Sy → Prop) (E : Sy → Prop) (N : List Ent → SV → Prop) (b : Nat) (c0 c2 c3 c4 c5 : SV) (bg : Nat) (s : Grp) (g : ByteArray) (b3 b4 D l : Nat) (rc : Loop) (u : Nat → Value) : (runR Try.prog [] (noY) true [] K (endMX Try.prog Try.f100.results.toList D 4 N) E 900 ((frm [] (bodyOf Try.f100) [1, 0, 1, 0] []).tail) ⟨mkT u 16 0 [(3, .ptr 2 b3 0), (4, .ptr 3 b4 0)], [pkA bg grpE s, ⟨.blk b, .cells [c0, .ptr 0 bg 0, c2, c3, c4, c5] 175⟩, ⟨.blk b3, .cells [.str g] 9⟩, ⟨.blk b4, .cells [.bool false] 4⟩, dent D true, lp l rc .exhausted none]⟩) = (
(b4 = b4 ∧ true = true ∧ 1 = 1 ∧ 1 ≤ 1) ∧
 some (dent D true) = some (dent D true) ∧
  b4 = b4 ∧
   N
    [pkA bg grpE s, Ent.mk (Loc.blk b) (SObj.cells [c0, SV.ptr 0 bg 0, c2, c3, c4, c5] (175 : TypeId)), Ent.mk (Loc.blk b3) (SObj.cells [SV.str g] (9 : TypeId)),
     Ent.mk (Loc.blk b4) (SObj.cells [SV.bool false] (4 : TypeId)), dent D false, lp l rc LoopState.exhausted (@none Code)]
    (SV.bool false)) := by kernel_rfl


theorem kg_ret (K : List Frm → Sy → Prop) (E : Sy → Prop) (N : List Ent → SV → Prop) (b : Nat) (c0 c2 c3 c4 c5 : SV) (bg : Nat) (s : Grp) (g : ByteArray) (b3 b4 D l : Nat) (rc : Loop) (u : Nat → Value) : (runR Try.prog [] (noY) true [] K (endMX Try.prog Try.f100.results.toList D 4 N) E 900 (Frm.code .ret :: (frm [] (bodyOf Try.f100) [1, 0, 1, 0] []).tail) ⟨mkT u 16 0 [(3, .ptr 2 b3 0), (4, .ptr 3 b4 0)], [pkA bg grpE s, ⟨.blk b, .cells [c0, .ptr 0 bg 0, c2, c3, c4, c5] 175⟩, ⟨.blk b3, .cells [.str g] 9⟩, ⟨.blk b4, .cells [.bool true] 4⟩, dent D true, lp l rc .exhausted (some .ret)]⟩) = (
some (dent D true) = some (dent D true) ∧
 b4 = b4 ∧
  N
   [pkA bg grpE s, Ent.mk (Loc.blk b) (SObj.cells [c0, SV.ptr 0 bg 0, c2, c3, c4, c5] (175 : TypeId)), Ent.mk (Loc.blk b3) (SObj.cells [SV.str g] (9 : TypeId)),
    Ent.mk (Loc.blk b4) (SObj.cells [SV.bool true] (4 : TypeId)), dent D false, lp l rc LoopState.exhausted (some Code.ret)]
   (SV.bool true)) := by kernel_rfl


theorem kk_start (K : List Frm → Sy → Prop) (X : Code → Sy → Prop) (E : Sy → Prop) (b : Nat) (c0 c2 c3 c4 c5 : SV) (bp bg : Nat) (pt : PT) (s : Grp) (g : ByteArray) (sig : Int) : (runR Try.prog [(60, membersQC), (106, inl Try.prog [] true Try.f106 200)] (noY) true [] K X E 300 [.code (bodyOf Try.f61)] ⟨padTo 25 [.ptr 0 b 0, .str g, .int .i64 sig], [⟨.blk b, .cells [.ptr 1 bp 0, .ptr 2 bg 0, c2, c3, c4, c5] 175⟩, pkA bp ptE pt, pkA bg grpE s]⟩) = (
true = true ∧
 ∀ (b_1 : Nat),
  true = true ∧
   ∀ (b_2 b_3 : Nat),
    (b_3 = b_3 ∧ true = true ∧ 1 = 1 ∧ 1 ≤ 1) ∧
     b_1 = b_1 ∧
      b = b ∧
       true = true ∧
        bg = bg ∧
         ∃ (h : Grp = Grp),
          AdtIs (fun (s : Grp) (b : Nat) ↦ packs (grpE s b)) grpE ∧
           memGOk (cast h s) g ∧
            ∀ (ao : Option Addr) (cap : Nat),
             true = true ∧
              true = true ∧
               ∀ (b_4 : Nat),
                K (frm [] (bodyOf Try.f61) [1, 1, 0, 1, 0] [])
                 (Sy.mk (SV.ptr 0 b 0 :: (SV.str g :: (SV.int IntKind.i64 sig :: (SV.ptr 3 b_1 0 :: (SV.raw (Value.tuple #[]) :: (SV.ptr 4 b_2 0 :: (SV.int IntKind.i64 (0 : Int) :: (SV.ptr 5 b_3 0 :: (SV.raw (Value.tuple #[]) :: (SV.ptr 0 b 0 :: (SV.ptr 0 b 0 :: (SV.ptr 0 b 1 :: (SV.ptr 2 bg 0 :: (SV.str g :: (SV.vec 6 ao (List.length (memQ s g)) cap :: (SV.func (Fn.func 131) [] [SV.ptr 7 b_4 0] :: (rawE [] 9)))))))))))))))))
                  [Ent.mk (Loc.blk b) (SObj.cells [SV.ptr 1 bp 0, SV.ptr 2 bg 0, c2, c3, c4, c5] (175 : TypeId)), pkA bp ptE pt, pkA bg grpE s,
                   Ent.mk (Loc.blk b_1) (SObj.cells [SV.ptr 0 b 0] 106), Ent.mk (Loc.blk b_2) (SObj.cells [SV.int IntKind.i64 sig] 3),
                   Ent.mk (Loc.blk b_3) (SObj.cells [SV.int IntKind.i64 (0 : Int)] 3), Ent.mk (Loc.sl ao cap) (SObj.vecL (3 : TypeId) 1 encI1 (memQ s g) (0 : Int)),
                   Ent.mk (Loc.blk b_4) (SObj.cells [SV.vec 6 ao (List.length (memQ s g)) cap] 75)])) := by kernel_rfl


theorem kk_asg (K : List Frm → Sy → Prop) (X : Code → Sy → Prop) (E : Sy → Prop) (b : Nat) (c0 c2 c3 c4 c5 : SV) (bp bg : Nat) (pt : PT) (s : Grp) (g : ByteArray) (sig : Int) (b3 b5 b7 D l : Nat) (n : Int) (rc : Loop) (x : Int) (u : Nat → Value) : (runR Try.prog [] (noY) true [] K X E 60 ([.code (rfA (codeAt (bodyOf Try.f61) [1, 1, 0, 1, 0]))]) ⟨mkT u 25 0 [(3, .ptr 3 b3 0), (5, .ptr 4 b5 0), (7, .ptr 5 b7 0), (16, .int .i64 x)], [⟨.blk b, .cells [.ptr 1 bp 0, .ptr 2 bg 0, c2, c3, c4, c5] 175⟩, pkA bp ptE (pt), pkA bg grpE s, ⟨.blk b3, .cells [.ptr 0 b 0] 106⟩, ⟨.blk b5, .cells [.int .i64 sig] 3⟩, ⟨.blk b7, .cells [.int .i64 (n)] 3⟩, dent D true, lp l rc .ready none]⟩) = (
E
 (Sy.mk (rawR u 0 (SV.ptr 3 b3 0 :: (SV.raw (u 4) :: (SV.ptr 4 b5 0 :: (SV.raw (u 6) :: (SV.ptr 5 b7 0 :: (SV.int IntKind.i64 x :: (rawR u 9 (SV.int IntKind.i64 x :: (rawR u 17 [] 8)) 7))))))) 3)
  [Ent.mk (Loc.blk b) (SObj.cells [SV.ptr 1 bp 0, SV.ptr 2 bg 0, c2, c3, c4, c5] (175 : TypeId)), pkA bp ptE pt, pkA bg grpE s,
   Ent.mk (Loc.blk b3) (SObj.cells [SV.ptr 0 b 0] (106 : TypeId)), Ent.mk (Loc.blk b5) (SObj.cells [SV.int IntKind.i64 sig] (3 : TypeId)),
   Ent.mk (Loc.blk b7) (SObj.cells [SV.int IntKind.i64 n] (3 : TypeId)), dent D true, lp l rc LoopState.ready (@none Code)])) := by kernel_rfl


theorem kk_body (K : List Frm → Sy → Prop) (X : Code → Sy → Prop) (E : Sy → Prop) (b : Nat) (c0 c2 c3 c4 c5 : SV) (bp bg : Nat) (pt : PT) (s : Grp) (g : ByteArray) (sig : Int) (b3 b5 b7 D l : Nat) (n : Int) (rc : Loop) (x : Int) (u : Nat → Value) : (runR Try.prog [(107, inl Try.prog [(132, adtC ptE killM)] true Try.f107 200)] (noY) true [] K X E 600 ([.code (rfB (codeAt (bodyOf Try.f61) [1, 1, 0, 1, 0]))]) ⟨mkT u 25 0 [(3, .ptr 3 b3 0), (5, .ptr 4 b5 0), (7, .ptr 5 b7 0), (8, .int .i64 x)], [⟨.blk b, .cells [.ptr 1 bp 0, .ptr 2 bg 0, c2, c3, c4, c5] 175⟩, pkA bp ptE (pt), pkA bg grpE s, ⟨.blk b3, .cells [.ptr 0 b 0] 106⟩, ⟨.blk b5, .cells [.int .i64 sig] 3⟩, ⟨.blk b7, .cells [.int .i64 (n)] 3⟩, dent D true, lp l rc .busy none]⟩) = (
b3 = b3 ∧
 b5 = b5 ∧
  true = true ∧
   b = b ∧
    true = true ∧
     bp = bp ∧
      ∃ (h : PT = PT),
       AdtIs (fun (s : PT) (b : Nat) ↦ packs (ptE s b)) ptE ∧
        pOk pt ∧
         match (pKill pt x sig).2 == (0 : Int) with
         | true =>
          b7 = b7 ∧
           (b7 = b7 ∧ true = true ∧ 1 = 1 ∧ 1 ≤ 1) ∧
            E
             (Sy.mk (rawR u 0 (SV.ptr 3 b3 0 :: (SV.raw (u 4) :: (SV.ptr 4 b5 0 :: (SV.raw (u 6) :: (SV.ptr 5 b7 0 :: (SV.int IntKind.i64 x :: (rawR u 9 (SV.ptr 0 b 0 :: (SV.int IntKind.i64 x :: (SV.int IntKind.i64 sig :: (SV.int IntKind.i64 (pKill pt x sig).2 :: (SV.bool true :: (SV.int IntKind.i64 n :: (SV.int IntKind.i64 (IntKind.wrap IntKind.i64 (n + (1 : Int))) :: (SV.raw (u 24) :: [])))))))) 8))))))) 3)
              [Ent.mk (Loc.blk b) (SObj.cells [SV.ptr 1 bp 0, SV.ptr 2 bg 0, c2, c3, c4, c5] (175 : TypeId)), pkA bp ptE (pKill pt x sig).1,
               pkA bg grpE s, Ent.mk (Loc.blk b3) (SObj.cells [SV.ptr 0 b 0] (106 : TypeId)), Ent.mk (Loc.blk b5) (SObj.cells [SV.int IntKind.i64 sig] (3 : TypeId)),
               Ent.mk (Loc.blk b7) (SObj.cells [SV.int IntKind.i64 (IntKind.wrap IntKind.i64 (n + (1 : Int)))] (3 : TypeId)), dent D true, lp l rc LoopState.busy (@none Code)])
         | false =>
          E
           (Sy.mk (rawR u 0 (SV.ptr 3 b3 0 :: (SV.raw (u 4) :: (SV.ptr 4 b5 0 :: (SV.raw (u 6) :: (SV.ptr 5 b7 0 :: (SV.int IntKind.i64 x :: (rawR u 9 (SV.ptr 0 b 0 :: (SV.int IntKind.i64 x :: (SV.int IntKind.i64 sig :: (SV.int IntKind.i64 (pKill pt x sig).2 :: (SV.bool false :: (rawR u 22 [] 3)))))) 8))))))) 3)
            [Ent.mk (Loc.blk b) (SObj.cells [SV.ptr 1 bp 0, SV.ptr 2 bg 0, c2, c3, c4, c5] (175 : TypeId)), pkA bp ptE (pKill pt x sig).1, pkA bg grpE s,
             Ent.mk (Loc.blk b3) (SObj.cells [SV.ptr 0 b 0] (106 : TypeId)), Ent.mk (Loc.blk b5) (SObj.cells [SV.int IntKind.i64 sig] (3 : TypeId)),
             Ent.mk (Loc.blk b7) (SObj.cells [SV.int IntKind.i64 n] (3 : TypeId)), dent D true, lp l rc LoopState.busy (@none Code)])) := by kernel_rfl


theorem kk_end (K : List Frm → Sy → Prop) (E : Sy → Prop) (N : List Ent → SV → Prop) (b : Nat) (c0 c2 c3 c4 c5 : SV) (bp bg : Nat) (pt : PT) (s : Grp) (g : ByteArray) (sig : Int) (b3 b5 b7 D l : Nat) (n : Int) (rc : Loop) (u : Nat → Value) : (runR Try.prog [] (noY) true [] K (endMX Try.prog Try.f61.results.toList D 6 N) E 900 ((frm [] (bodyOf Try.f61) [1, 1, 0, 1, 0] []).tail) ⟨mkT u 25 0 [(3, .ptr 3 b3 0), (5, .ptr 4 b5 0), (7, .ptr 5 b7 0)], [⟨.blk b, .cells [.ptr 1 bp 0, .ptr 2 bg 0, c2, c3, c4, c5] 175⟩, pkA bp ptE (pt), pkA bg grpE s, ⟨.blk b3, .cells [.ptr 0 b 0] 106⟩, ⟨.blk b5, .cells [.int .i64 sig] 3⟩, ⟨.blk b7, .cells [.int .i64 (n)] 3⟩, dent D true, lp l rc .exhausted none]⟩) = (
b7 = b7 ∧
 some (dent D true) = some (dent D true) ∧
  N
   [Ent.mk (Loc.blk b) (SObj.cells [SV.ptr 1 bp 0, SV.ptr 2 bg 0, c2, c3, c4, c5] (175 : TypeId)), pkA bp ptE pt, pkA bg grpE s,
    Ent.mk (Loc.blk b3) (SObj.cells [SV.ptr 0 b 0] (106 : TypeId)), Ent.mk (Loc.blk b5) (SObj.cells [SV.int IntKind.i64 sig] (3 : TypeId)),
    Ent.mk (Loc.blk b7) (SObj.cells [SV.int IntKind.i64 n] (3 : TypeId)), dent D false, lp l rc LoopState.exhausted (@none Code)]
   (SV.int IntKind.i64 n)) := by kernel_rfl


theorem add_run (K : List Frm → Sy → Prop) (N : List Ent → SV → Prop) (a c : Int) : (run Try.prog [] false [] K (retP Try.prog Try.f109.results.toList N) 600 [.code (bodyOf Try.f109)] ⟨padTo 39 [.int .i64 a, .int .i64 c], []⟩) = (
match a == (9223372036854775807 : Int) with
| true => N [] (SV.int IntKind.i64 (9223372036854775807 : Int))
| false =>
 match c == (9223372036854775807 : Int) with
 | true => N [] (SV.int IntKind.i64 (9223372036854775807 : Int))
 | false =>
  match decide (a > (0 : Int)) with
  | true =>
   match decide (c > (0 : Int)) with
   | true =>
    match decide (IntKind.wrap IntKind.i64 (a + c) < (0 : Int)) with
    | true => N [] (SV.int IntKind.i64 (9223372036854775807 : Int))
    | false =>
     match decide (a < (0 : Int)) with
     | true =>
      match decide (c < (0 : Int)) with
      | true =>
       match decide (IntKind.wrap IntKind.i64 (a + c) ≥ (0 : Int)) with
       | true => N [] (SV.int IntKind.i64 (-9223372036854775808 : Int))
       | false => N [] (SV.int IntKind.i64 (IntKind.wrap IntKind.i64 (a + c)))
      | false => N [] (SV.int IntKind.i64 (IntKind.wrap IntKind.i64 (a + c)))
     | false => N [] (SV.int IntKind.i64 (IntKind.wrap IntKind.i64 (a + c)))
   | false =>
    match decide (a < (0 : Int)) with
    | true =>
     match decide (c < (0 : Int)) with
     | true =>
      match decide (IntKind.wrap IntKind.i64 (a + c) ≥ (0 : Int)) with
      | true => N [] (SV.int IntKind.i64 (-9223372036854775808 : Int))
      | false => N [] (SV.int IntKind.i64 (IntKind.wrap IntKind.i64 (a + c)))
     | false => N [] (SV.int IntKind.i64 (IntKind.wrap IntKind.i64 (a + c)))
    | false => N [] (SV.int IntKind.i64 (IntKind.wrap IntKind.i64 (a + c)))
  | false =>
   match decide (a < (0 : Int)) with
   | true =>
    match decide (c < (0 : Int)) with
    | true =>
     match decide (IntKind.wrap IntKind.i64 (a + c) ≥ (0 : Int)) with
     | true => N [] (SV.int IntKind.i64 (-9223372036854775808 : Int))
     | false => N [] (SV.int IntKind.i64 (IntKind.wrap IntKind.i64 (a + c)))
    | false => N [] (SV.int IntKind.i64 (IntKind.wrap IntKind.i64 (a + c)))
   | false => N [] (SV.int IntKind.i64 (IntKind.wrap IntKind.i64 (a + c)))) := by kernel_rfl


theorem tick_run (K : List Frm → Sy → Prop) (N : List Ent → SV → Prop) (b : Nat) (c0 c1 c2 c3 : SV) (m w n : Int) : (run Try.prog [(109, addC)] true [200001] K (retP Try.prog Try.f67.results.toList N) 600 [.code (bodyOf Try.f67)] ⟨padTo 25 [.ptr 0 b 0, .int .i64 n], [⟨.blk b, .cells [c0, c1, c2, c3, .int .i64 m, .int .i64 w] 175⟩]⟩) = (
match decide (n < (0 : Int)) with
| true => N [Ent.mk (Loc.blk b) (SObj.cells [c0, c1, c2, c3, SV.int IntKind.i64 m, SV.int IntKind.i64 w] (175 : TypeId))] (SV.int IntKind.i64 (10 : Int))
| false =>
 b = b ∧
  b = b ∧
   true = true ∧
    (Ent.mk (Loc.blk b) (SObj.cells [c0, c1, c2, c3, SV.int IntKind.i64 m, SV.int IntKind.i64 w] (175 : TypeId)) =
     Ent.mk (Loc.blk b) (SObj.cells [c0, c1, c2, c3, SV.int IntKind.i64 m, SV.int IntKind.i64 w] (175 : TypeId)) ∧
     True) ∧
     true = true ∧
      (Ent.mk (Loc.blk b) (SObj.cells [c0, c1, c2, c3, SV.int IntKind.i64 m, SV.int IntKind.i64 w] (175 : TypeId)) =
       Ent.mk (Loc.blk b) (SObj.cells [c0, c1, c2, c3, SV.int IntKind.i64 m, SV.int IntKind.i64 w] (175 : TypeId)) ∧
       True) ∧
       (b = b ∧ true = true ∧ 1 = 1 ∧ 5 ≤ 6) ∧
        (b = b ∧ true = true ∧ 1 = 1 ∧ 6 ≤ 6) ∧
         N [Ent.mk (Loc.blk b) (SObj.cells [c0, c1, c2, c3, SV.int IntKind.i64 (addS m n), SV.int IntKind.i64 (addS w n)] (175 : TypeId))] (SV.int IntKind.i64 (0 : Int))) := by kernel_rfl


theorem pn_run (K : List Frm → Sy → Prop) (N : List Ent → SV → Prop) : (run Try.prog [] false [] K (retP Try.prog Try.f11.results.toList N) 600 [.code (bodyOf Try.f11)] ⟨padTo 4 [], []⟩) = (
∀ (b : Nat),
 (true = true ∧ true = true) ∧
  true = true ∧
   ∀ (b_1 : Nat),
    N
     [Ent.mk (Loc.blk b) (SObj.mapV (@none IntKind) []),
      Ent.mk (Loc.blk b_1) (SObj.cells [SV.map 0 b, SV.raw (Value.slice (@none Addr) 0 0), SV.int IntKind.i64 (0 : Int)] 131)]
     (SV.ptr 1 b_1 0)) := by kernel_rfl


theorem tn_run (K : List Frm → Sy → Prop) (N : List Ent → SV → Prop) : (run Try.prog [] false [] K (retP Try.prog Try.f99.results.toList N) 600 [.code (bodyOf Try.f99)] ⟨padTo 7 [], []⟩) = (
∀ (b : Nat),
 (b = b ∧ @none IntKind = @none IntKind ∧ @none IntKind = @none IntKind) ∧
  ∀ (b_1 b_2 : Nat),
   (true = true ∧ true = true) ∧
    true = true ∧
     ∀ (b_3 : Nat),
      N
       [Ent.mk (Loc.blk b) (SObj.mapV (@none IntKind) [(Key.s (ByteArray.mk #[(47 : UInt8)]), SV.bool true)]), Ent.mk (Loc.blk b_1) (SObj.mapV (@none IntKind) []),
        Ent.mk (Loc.blk b_2) (SObj.mapV (@none IntKind) []), Ent.mk (Loc.blk b_3) (SObj.cells [SV.map 0 b, SV.map 1 b_1, SV.map 2 b_2] 226)]
       (SV.ptr 3 b_3 0)) := by kernel_rfl
end Go.Proofs.Ytkcmgcoppecfpaa

