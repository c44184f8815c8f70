/- GroupOne: the functions that it calls. -/
import Derived.Test.YtihajdkipkfiiaaGoP
namespace Go.Proofs.Ytihajdkipkfiiaa
open Go Go.RowKit
set_option linter.unusedVariables false
set_option linter.unusedSimpArgs false
set_option linter.unnecessarySimpa false
set_option maxHeartbeats 0

/-- A group's members, rising. -/
def memL (s : Grp) (name : ByteArray) : List Int := match mget s.gs (.s name) with
  | some x => sortI x.2
  | none => []
def memOk (s : Grp) (name : ByteArray) : Prop := ∃ x, mget s.gs (.s name) = some x ∧ wfI x.2
/-- Members, of a group that is there. -/
def membersC : Ctr := fun args hs N => match args with
  | [.ptr l b 0, .str name] => match nth hs l with
    | some ⟨.blk b', .adt (σ := σ') p s⟩ => b' = b ∧ ∃ h : σ' = Grp, AdtIs p grpE ∧ memOk (cast h s) name ∧
        ∀ ao cap, N (snoc hs ⟨.sl ao cap, .vecL 3 1 encI1 (memL (cast h s) name) 0⟩) (.vec (lenN hs) ao (memL (cast h s) name).length cap)
    | _ => False
  | _ => False
def gTm0 : Tbl := [(96, inl Try.prog [] true Try.f96 100), (80, srtIC 110 3)]
def gTm : Tbl := (73, inl Try.prog gTm0 true Try.f73 200) :: gTm0
/-- reveillehelp.Ints, where both rows are the same. -/
def intsC : Ctr := fun args hs N => match args with
  | [.vec l ao n cap, .vec l' ao' n' cap'] => ∃ xs : List Int, nth hs l = some ⟨.sl ao cap, .vecL 3 1 encI1 xs 0⟩ ∧ nth hs l' = some ⟨.sl ao' cap', .vecL 3 1 encI1 xs 0⟩ ∧ (Nat.beq l l' = false ∧ n = xs.length ∧ n' = xs.length ∧ xs.length ≤ 1000000) ∧ N hs (.bool true)
  | _ => False
def goT : Tbl := (12, trueC) :: (18, membersC) :: (17, intsC) :: gTb
end Go.Proofs.Ytihajdkipkfiiaa
