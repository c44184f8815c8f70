/- proc.Table: going through it. -/
import Derived.Test.YtihajdkipkfiiaaPrc2
namespace Go.Proofs.Ytihajdkipkfiiaa
open Go Go.RowKit
set_option linter.unusedVariables false
/-- The function that is called for each process: R i: the other entries ahead of process i; Stop: where it says 'false'. -/
def all1Y (fv : Value) (s : PT) (b : Nat) (R : Nat → List Ent) (Stop : PT → List Ent → Prop) : YCtr := fun v args hs N => v = fv ∧ match hs with
  | e0 :: e1 :: e2 :: rest => ∃ i x, s.ps[i]? = some x ∧ args = [.agg (encP6 x.2)] ∧ e0 = pkA b ptE s ∧ e2 = pk 0 (R i) ∧
      N (pkA b ptE s :: e1 :: pk 0 (R (i + 1)) :: rest) (.bool true) ∧ ∀ s' R', Stop s' R' → N (pkA b ptE s' :: e1 :: pk 0 R' :: rest) (.bool false)
  | _ => False
def ptK : Tbl := [(98, inl Try.prog [] true Try.f98 100), (80, srtIC 111 3)]
def ptG : Tbl := (26, adtC ptE getM) :: ptK
/-- The first ones: all where 'stop' isn't above 0. -/
def upto (stop : Int) (l : List PR) : List PR := match decide (stop ≤ 0) with
  | true => l
  | false => l.take stop.toNat
/-- All's function, called with the law's own one. -/
def all1C : Ctr := fun args hs N => match args with
  | [.func (.func g) [] [.ptr _ bl 0, .ptr _ bs 0], .ptr _ bt 0] => g = 77 ∧ ∃ s stop b, hs = [pkA b ptE s, ⟨.blk bs, .cells [.int .i64 stop] 3⟩, ⟨.blk bl, .cells [.raw (.slice none 0 0)] 50⟩, ⟨.blk bt, .cells [.ptr 0 b 0] 38⟩] ∧ (pOk s ∧ s.ps.length ≤ 200) ∧
      ∀ ao cap, N [pkA b ptE s, ⟨.blk bs, .cells [.int .i64 stop] 3⟩, ⟨.blk bl, .cells [.vec 3 ao (upto stop (s.ps.map (·.2))).length cap] 50⟩, ⟨.sl ao cap, .vecL 45 6 encP6 (upto stop (s.ps.map (·.2))) PR.zero⟩] (.tuple [])
  | _ => False
/-- all: the processes, in order. -/
def allPC : Ctr := fun args hs N => match args with
  | [.ptr l b 0, .int .i64 stop] => match nth hs l with
    | some ⟨.blk b', .adt (σ := σ') p s⟩ => b' = b ∧ ∃ h : σ' = PT, AdtIs p ptE ∧ (pOk (cast h s) ∧ (cast h s).ps.length ≤ 200) ∧
        ∀ ao cap, N (snoc hs ⟨.sl ao cap, .vecL 45 6 encP6 (upto stop ((cast h s).ps.map (·.2))) PR.zero⟩) (.vec (lenN hs) ao (upto stop ((cast h s).ps.map (·.2))).length cap)
    | _ => False
  | _ => False
def ptA : Tbl := [(97, all1C), (76, inl Try.prog [] true Try.f76 100)]
end Go.Proofs.Ytihajdkipkfiiaa
