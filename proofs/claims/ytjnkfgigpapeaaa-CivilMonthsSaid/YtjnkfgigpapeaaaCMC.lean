/- CivilMonths: its states. -/
import Derived.Test.YtjnkfgigpapeaaaCBC
import Derived.Test.YtjnkfgigpapeaaaRng
import Derived.Test.YtjnkfgigpapeaaaTab
namespace Go.Proofs.Ytjnkfgigpapeaaa
open Go Go.RowKit
set_option linter.unusedVariables false
def encD (d : Int × Int × Int) : List SV := [.int .i64 d.1, .int .i64 d.2.1, .int .i64 d.2.2]
/-- A month's first k dates. -/
def dlist (y m : Int) (k : Nat) : List (Int × Int × Int) := (List.range k).map fun (i : Nat) => (y, m, (i : Int) + 1)
/-- How many come. -/
def stopI (y m stop : Int) : Nat := if 1 ≤ stop ∧ stop ≤ lenI y m then stop.toNat else (lenI y m).toNat
abbrev cmY (b5 b7 : Nat) : SV := .func (.func 19) [] [.ptr 1 b7 0, .ptr 0 b5 0]
/-- The entries ahead of the loop, behind k dates. -/
abbrev cmHeap (stop y m : Int) (b5 b7 bY bm : Nat) (k : Nat) (ao : Option Addr) (cap : Nat) : List Ent :=
  [⟨.blk b5, .cells [.int .i64 stop] 3⟩, ⟨.blk b7, .cells [.vec 4 ao k cap] 31⟩, ⟨.blk bY, .cells [.int .i64 y] 3⟩, ⟨.blk bm, .cells [.int .i64 m] 3⟩, ⟨.sl ao cap, .vecL 27 3 encD (dlist y m k) ((0 : Int), (0 : Int), (0 : Int))⟩]
/-- .. within it. -/
abbrev cmHeapR (stop y m : Int) (b5 b7 bY bm bt bn D l : Nat) (rc : Loop) (s : LoopState) (j : Option Code) (k : Nat) (ao : Option Addr) (cap : Nat) : List Ent :=
  [⟨.blk b5, .cells [.int .i64 stop] 3⟩, ⟨.blk b7, .cells [.vec 4 ao k cap] 31⟩, ⟨.blk bY, .cells [.int .i64 y] 3⟩, ⟨.blk bm, .cells [.int .i64 m] 3⟩, ⟨.sl ao cap, .vecL 27 3 encD (dlist y m k) ((0 : Int), (0 : Int), (0 : Int))⟩,
   ⟨.blk bt, .cells [cmY b5 b7] 29⟩, ⟨.blk bn, .cells [.int .i64 (lenI y m)] 3⟩, dent D true, lp l rc s j]
/-- What has come stands none ahead of the stop. -/
def noStop (stop : Int) (k : Nat) : Prop := ¬ (1 ≤ stop ∧ stop ≤ k)
/-- The loop's body as the iterator sees it. -/
def cmYC (stop y m : Int) (b5 b7 bY bm bt bn D l : Nat) (rc : Loop) : YCtr := fun l' args hs N => l' = l ∧ ∃ (k : Nat) (ao : Option Addr) (cap : Nat), (k : Int) + 1 ≤ lenI y m ∧ args = [.int .i64 ((k : Int) + 1)] ∧ hs = cmHeapR stop y m b5 b7 bY bm bt bn D l rc .ready none k ao cap ∧
  ((k : Int) + 1 ≠ stop → ∀ ao' cap', N (cmHeapR stop y m b5 b7 bY bm bt bn D l rc .ready none (k + 1) ao' cap') (.bool true)) ∧
  ((k : Int) + 1 = stop → ∀ ao' cap', N (cmHeapR stop y m b5 b7 bY bm bt bn D l rc .done (some .ret) (k + 1) ao' cap') (.bool false))
/-- Month's function. -/
def monthC : Ctr := fun args hs N => match args with
  | [.func (.func f) [] [.ptr _ b7 0, .ptr _ b5 0], .ptr _ bY 0, .ptr _ bm 0] => f = 19 ∧ ∃ stop y m : Int,
      hs = [⟨.blk b5, .cells [.int .i64 stop] 3⟩, ⟨.blk b7, .cells [.raw (.slice none 0 0)] 31⟩, ⟨.blk bY, .cells [.int .i64 y] 3⟩, ⟨.blk bm, .cells [.int .i64 m] 3⟩] ∧ ∀ ao cap, N (cmHeap stop y m b5 b7 bY bm (stopI y m stop) ao cap) (.tuple [])
  | _ => False
def cmT1 : Tbl := (19, inl Try.prog civ5 true Try.f19 300) :: (18, inl Try.prog civ5 true Try.f18 300) :: (70, inl Try.prog civ5 true Try.f70 300) :: civ6
def cmT2 : Tbl := (69, monthC) :: cmT1
end Go.Proofs.Ytjnkfgigpapeaaa
