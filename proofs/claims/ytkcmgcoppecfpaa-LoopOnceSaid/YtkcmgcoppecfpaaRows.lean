/-
  No cell of these rows narrows 'for every input' (looked for: loops, veiled, ifaces, maps, wideKeys, modest, calm, conditions, laid).
  DERIVED. THE GIVEN ROWS OF THIS SEAT. 7 by the template 'for every input the law returns true; each argument reads behind the call as it read before'; 0 by the template 'total and deterministic' (their statements: YtkcmgcoppecfpaaTotals.lean).
  GIVEN WITH THE SEED: the statements are not yours to turn. If you find one false, say at which input.
  Laid BY PROGRAM, IN A SANDBOX (cutbox-rows.mjs): the forced cells as the released guide's own fill.sh prints them over the translation 08593d8bf3889e2a… (all of the seat's roots in one cut). By AI agents, Wed Nov 11 2026. No macro, syntax, notation, axiom, sorry.
-/
import Derived.Test.YtkcmgcoppecfpaaChecked
import GoSem.Claim
import GoSem.ClaimJoined
import GoSem.ClaimMapViews
import Derived.JoinedTies
import Derived.KernelRfl
namespace Go.Proofs.Ytkcmgcoppecfpaa
/- THE CELL 'sum', in the pinned program and in every row, IS THE sha256 OF THE DUMP (.gsa) THAT YtkcmgcoppecfpaaProg.lean LOADS. Nothing in Lean hashes anything: it is a label: what it is worth is what the hold of that sum in a sandbox is worth. -/
noncomputable def Try.pinned : Pinned := { name := "ytkcmgcoppecfpaa", sum := "08593d8bf3889e2acca6ec367c2c6c306c5ad129fe7011ee63c1dac6922f9748", checked := Try.checked }
namespace Rows
def none {H : Type} : Left H := { results := [], args := [] }

/-- 'reveillelaw10.PortPlays': WHATEVER THE INPUT: true; the input reads as it did. -/
def portPlaysSpec : ChangeSpec := { name := "portPlays", fn := fun _ => fun
  | [d] => { results := [.lit (.bool true)], args := [d] }
  | _ => none }
def portPlaysRow : OpenClaim := { program := "ytkcmgcoppecfpaa", sum := "08593d8bf3889e2acca6ec367c2c6c306c5ad129fe7011ee63c1dac6922f9748", func := "reveille/reveillelaw10.PortPlays", spec := "portPlays", unfollowed := true, recurses := true, plainKeys := false, apart := false }
def PortPlaysSaid : Prop := portPlaysRow.holds Try.pinned (OpenSpec.ofChange portPlaysSpec)

/-- ITS FALSE NEIGHBOUR: 'it returns false'. Refute it at one input. -/
def portPlaysWrong : ChangeSpec := { name := "portPlays", fn := fun _ => fun
  | [d] => { results := [.lit (.bool false)], args := [d] }
  | _ => none }
def PortPlaysWrongFalsely : Prop := portPlaysRow.holds Try.pinned (OpenSpec.ofChange portPlaysWrong)

/-- 'reveillelaw14.LoopOnce': WHATEVER THE INPUT: true; the input reads as it did. -/
def loopOnceSpec : ChangeSpec := { name := "loopOnce", fn := fun _ => fun
  | [d1, d2] => { results := [.lit (.bool true)], args := [d1, d2] }
  | _ => none }
def loopOnceRow : OpenClaim := { program := "ytkcmgcoppecfpaa", sum := "08593d8bf3889e2acca6ec367c2c6c306c5ad129fe7011ee63c1dac6922f9748", func := "reveille/reveillelaw14.LoopOnce", spec := "loopOnce", unfollowed := true, recurses := true, plainKeys := false, apart := false }
def LoopOnceSaid : Prop := loopOnceRow.holds Try.pinned (OpenSpec.ofChange loopOnceSpec)

/-- ITS FALSE NEIGHBOUR: 'it returns false'. Refute it at one input. -/
def loopOnceWrong : ChangeSpec := { name := "loopOnce", fn := fun _ => fun
  | [d1, d2] => { results := [.lit (.bool false)], args := [d1, d2] }
  | _ => none }
def LoopOnceWrongFalsely : Prop := loopOnceRow.holds Try.pinned (OpenSpec.ofChange loopOnceWrong)

/-- 'reveillelaw14.LoopKinds': WHATEVER THE INPUT: true; the input reads as it did. -/
def loopKindsSpec : ChangeSpec := { name := "loopKinds", fn := fun _ => fun
  | [d] => { results := [.lit (.bool true)], args := [d] }
  | _ => none }
def loopKindsRow : OpenClaim := { program := "ytkcmgcoppecfpaa", sum := "08593d8bf3889e2acca6ec367c2c6c306c5ad129fe7011ee63c1dac6922f9748", func := "reveille/reveillelaw14.LoopKinds", spec := "loopKinds", unfollowed := true, recurses := true, plainKeys := false, apart := false }
def LoopKindsSaid : Prop := loopKindsRow.holds Try.pinned (OpenSpec.ofChange loopKindsSpec)

/-- ITS FALSE NEIGHBOUR: 'it returns false'. Refute it at one input. -/
def loopKindsWrong : ChangeSpec := { name := "loopKinds", fn := fun _ => fun
  | [d] => { results := [.lit (.bool false)], args := [d] }
  | _ => none }
def LoopKindsWrongFalsely : Prop := loopKindsRow.holds Try.pinned (OpenSpec.ofChange loopKindsWrong)

/-- 'reveillelaw14.LoopForgets': WHATEVER THE INPUT: true; the input reads as it did. -/
def loopForgetsSpec : ChangeSpec := { name := "loopForgets", fn := fun _ => fun
  | [d1, d2] => { results := [.lit (.bool true)], args := [d1, d2] }
  | _ => none }
def loopForgetsRow : OpenClaim := { program := "ytkcmgcoppecfpaa", sum := "08593d8bf3889e2acca6ec367c2c6c306c5ad129fe7011ee63c1dac6922f9748", func := "reveille/reveillelaw14.LoopForgets", spec := "loopForgets", unfollowed := true, recurses := true, plainKeys := false, apart := false }
def LoopForgetsSaid : Prop := loopForgetsRow.holds Try.pinned (OpenSpec.ofChange loopForgetsSpec)

/-- ITS FALSE NEIGHBOUR: 'it returns false'. Refute it at one input. -/
def loopForgetsWrong : ChangeSpec := { name := "loopForgets", fn := fun _ => fun
  | [d1, d2] => { results := [.lit (.bool false)], args := [d1, d2] }
  | _ => none }
def LoopForgetsWrongFalsely : Prop := loopForgetsRow.holds Try.pinned (OpenSpec.ofChange loopForgetsWrong)

/-- 'reveillelaw14.LoopPlays': WHATEVER THE INPUT: true; the input reads as it did. -/
def loopPlaysSpec : ChangeSpec := { name := "loopPlays", fn := fun _ => fun
  | [d] => { results := [.lit (.bool true)], args := [d] }
  | _ => none }
def loopPlaysRow : OpenClaim := { program := "ytkcmgcoppecfpaa", sum := "08593d8bf3889e2acca6ec367c2c6c306c5ad129fe7011ee63c1dac6922f9748", func := "reveille/reveillelaw14.LoopPlays", spec := "loopPlays", unfollowed := true, recurses := true, plainKeys := false, apart := false }
def LoopPlaysSaid : Prop := loopPlaysRow.holds Try.pinned (OpenSpec.ofChange loopPlaysSpec)

/-- ITS FALSE NEIGHBOUR: 'it returns false'. Refute it at one input. -/
def loopPlaysWrong : ChangeSpec := { name := "loopPlays", fn := fun _ => fun
  | [d] => { results := [.lit (.bool false)], args := [d] }
  | _ => none }
def LoopPlaysWrongFalsely : Prop := loopPlaysRow.holds Try.pinned (OpenSpec.ofChange loopPlaysWrong)

/-- 'reveillelaw12.KernKills': WHATEVER THE INPUT: true; the input reads as it did. -/
def kernKillsSpec : ChangeSpec := { name := "kernKills", fn := fun _ => fun
  | [d1, d2] => { results := [.lit (.bool true)], args := [d1, d2] }
  | _ => none }
def kernKillsRow : OpenClaim := { program := "ytkcmgcoppecfpaa", sum := "08593d8bf3889e2acca6ec367c2c6c306c5ad129fe7011ee63c1dac6922f9748", func := "reveille/reveillelaw12.KernKills", spec := "kernKills", unfollowed := true, recurses := true, plainKeys := false, apart := false }
def KernKillsSaid : Prop := kernKillsRow.holds Try.pinned (OpenSpec.ofChange kernKillsSpec)

/-- ITS FALSE NEIGHBOUR: 'it returns false'. Refute it at one input. -/
def kernKillsWrong : ChangeSpec := { name := "kernKills", fn := fun _ => fun
  | [d1, d2] => { results := [.lit (.bool false)], args := [d1, d2] }
  | _ => none }
def KernKillsWrongFalsely : Prop := kernKillsRow.holds Try.pinned (OpenSpec.ofChange kernKillsWrong)

/-- 'reveillelaw12.KernClocks': WHATEVER THE INPUT: true; the input reads as it did. -/
def kernClocksSpec : ChangeSpec := { name := "kernClocks", fn := fun _ => fun
  | [d1, d2, d3] => { results := [.lit (.bool true)], args := [d1, d2, d3] }
  | _ => none }
def kernClocksRow : OpenClaim := { program := "ytkcmgcoppecfpaa", sum := "08593d8bf3889e2acca6ec367c2c6c306c5ad129fe7011ee63c1dac6922f9748", func := "reveille/reveillelaw12.KernClocks", spec := "kernClocks", unfollowed := true, recurses := true, plainKeys := false, apart := false }
def KernClocksSaid : Prop := kernClocksRow.holds Try.pinned (OpenSpec.ofChange kernClocksSpec)

/-- ITS FALSE NEIGHBOUR: 'it returns false'. Refute it at one input. -/
def kernClocksWrong : ChangeSpec := { name := "kernClocks", fn := fun _ => fun
  | [d1, d2, d3] => { results := [.lit (.bool false)], args := [d1, d2, d3] }
  | _ => none }
def KernClocksWrongFalsely : Prop := kernClocksRow.holds Try.pinned (OpenSpec.ofChange kernClocksWrong)

/- THE SECOND FORM. 'bulk': how many values and letters a reading holds, each counted each time it is reached (what is shared counts as often as it is met; a slice's spare places count too). A statement '..UptoSaid' is the law's where the arguments, and the package variables that the reading takes, are together of bulk at most 1048576: NARROWER than '..Said'. Prove '..Said' where nothing that the law and all that it calls make is longer than what came in: it says more and counts as full. Else prove '..UptoSaid'. A law counts once. -/
mutual
def uptoBulk {H : Type} : DataW H → Nat
  | .lit (.string bytes) => bytes.length + 1
  | .lit _ => 1
  | .nil => 1
  | .ptr d => uptoBulk d + 1
  | .slice elems spare => uptoBulkAll elems + uptoBulkAll spare + 1
  | .agg parts => uptoBulkAll parts + 1
  | .iface _ d => uptoBulk d + 1
  | .map entries => uptoBulkEntries entries + 1
  | .held _ => 1
def uptoBulkAll {H : Type} : List (DataW H) → Nat
  | [] => 0
  | d :: r => uptoBulk d + uptoBulkAll r
def uptoBulkEntries {H : Type} : List (Lit × DataW H) → Nat
  | [] => 0
  | x :: r => uptoBulkEntry x + uptoBulkEntries r
def uptoBulkEntry {H : Type} : Lit × DataW H → Nat
  | (.string bytes, d) => bytes.length + uptoBulk d + 1
  | (_, d) => uptoBulk d + 1
 end
def uptoSmall : (H : Type) → List (DataW H) → Bool := fun _ ds => decide (uptoBulkAll ds ≤ 1048576)
def OpenSpec.upto (s : _root_.Go.ChangeSpec) : _root_.Go.OpenSpec := { _root_.Go.OpenSpec.ofChange s with cond := some uptoSmall }

/-- 'reveillelaw10.PortPlays', WHERE WHAT IT READS IS OF BULK AT MOST 1048576: true; the input reads as it did. -/
def portPlaysUptoRow : OpenClaim := { program := "ytkcmgcoppecfpaa", sum := "08593d8bf3889e2acca6ec367c2c6c306c5ad129fe7011ee63c1dac6922f9748", func := "reveille/reveillelaw10.PortPlays", spec := "portPlays", unfollowed := true, recurses := true, plainKeys := false, apart := false, narrowed := true }
def PortPlaysUptoSaid : Prop := portPlaysUptoRow.holds Try.pinned (OpenSpec.upto portPlaysSpec)

/-- 'reveillelaw14.LoopOnce', WHERE WHAT IT READS IS OF BULK AT MOST 1048576: true; the input reads as it did. -/
def loopOnceUptoRow : OpenClaim := { program := "ytkcmgcoppecfpaa", sum := "08593d8bf3889e2acca6ec367c2c6c306c5ad129fe7011ee63c1dac6922f9748", func := "reveille/reveillelaw14.LoopOnce", spec := "loopOnce", unfollowed := true, recurses := true, plainKeys := false, apart := false, narrowed := true }
def LoopOnceUptoSaid : Prop := loopOnceUptoRow.holds Try.pinned (OpenSpec.upto loopOnceSpec)

/-- 'reveillelaw14.LoopKinds', WHERE WHAT IT READS IS OF BULK AT MOST 1048576: true; the input reads as it did. -/
def loopKindsUptoRow : OpenClaim := { program := "ytkcmgcoppecfpaa", sum := "08593d8bf3889e2acca6ec367c2c6c306c5ad129fe7011ee63c1dac6922f9748", func := "reveille/reveillelaw14.LoopKinds", spec := "loopKinds", unfollowed := true, recurses := true, plainKeys := false, apart := false, narrowed := true }
def LoopKindsUptoSaid : Prop := loopKindsUptoRow.holds Try.pinned (OpenSpec.upto loopKindsSpec)

/-- 'reveillelaw14.LoopForgets', WHERE WHAT IT READS IS OF BULK AT MOST 1048576: true; the input reads as it did. -/
def loopForgetsUptoRow : OpenClaim := { program := "ytkcmgcoppecfpaa", sum := "08593d8bf3889e2acca6ec367c2c6c306c5ad129fe7011ee63c1dac6922f9748", func := "reveille/reveillelaw14.LoopForgets", spec := "loopForgets", unfollowed := true, recurses := true, plainKeys := false, apart := false, narrowed := true }
def LoopForgetsUptoSaid : Prop := loopForgetsUptoRow.holds Try.pinned (OpenSpec.upto loopForgetsSpec)

/-- 'reveillelaw14.LoopPlays', WHERE WHAT IT READS IS OF BULK AT MOST 1048576: true; the input reads as it did. -/
def loopPlaysUptoRow : OpenClaim := { program := "ytkcmgcoppecfpaa", sum := "08593d8bf3889e2acca6ec367c2c6c306c5ad129fe7011ee63c1dac6922f9748", func := "reveille/reveillelaw14.LoopPlays", spec := "loopPlays", unfollowed := true, recurses := true, plainKeys := false, apart := false, narrowed := true }
def LoopPlaysUptoSaid : Prop := loopPlaysUptoRow.holds Try.pinned (OpenSpec.upto loopPlaysSpec)

/-- 'reveillelaw12.KernKills', WHERE WHAT IT READS IS OF BULK AT MOST 1048576: true; the input reads as it did. -/
def kernKillsUptoRow : OpenClaim := { program := "ytkcmgcoppecfpaa", sum := "08593d8bf3889e2acca6ec367c2c6c306c5ad129fe7011ee63c1dac6922f9748", func := "reveille/reveillelaw12.KernKills", spec := "kernKills", unfollowed := true, recurses := true, plainKeys := false, apart := false, narrowed := true }
def KernKillsUptoSaid : Prop := kernKillsUptoRow.holds Try.pinned (OpenSpec.upto kernKillsSpec)

/-- 'reveillelaw12.KernClocks', WHERE WHAT IT READS IS OF BULK AT MOST 1048576: true; the input reads as it did. -/
def kernClocksUptoRow : OpenClaim := { program := "ytkcmgcoppecfpaa", sum := "08593d8bf3889e2acca6ec367c2c6c306c5ad129fe7011ee63c1dac6922f9748", func := "reveille/reveillelaw12.KernClocks", spec := "kernClocks", unfollowed := true, recurses := true, plainKeys := false, apart := false, narrowed := true }
def KernClocksUptoSaid : Prop := kernClocksUptoRow.holds Try.pinned (OpenSpec.upto kernClocksSpec)

end Rows
end Go.Proofs.Ytkcmgcoppecfpaa
