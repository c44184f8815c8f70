/-
  No cell of these rows narrows 'for every input' (looked for: loops, veiled, ifaces, maps, wideKeys, modest, calm, conditions, laid).
  DERIVED. THE GIVEN ROWS OF THIS SEAT. 9 by the template 'for every input the law returns true; each argument reads behind the call as it read before'; 0 by the template 'total and deterministic' (their statements: YtihajdkipkfiiaaTotals.lean).
  GIVEN WITH THE SEED: the statements are not yours to turn. If you find one false, say at which input.
  Laid BY PROGRAM, IN A SANDBOX (cutbox-rows.mjs): the forced cells as the released guide's own fill.sh prints them over the translation 29f59b1da8076971… (all of the seat's roots in one cut). By AI agents, Wed Nov 11 2026. No macro, syntax, notation, axiom, sorry.
-/
import Derived.Test.YtihajdkipkfiiaaChecked
import GoSem.Claim
import GoSem.ClaimJoined
import GoSem.ClaimMapViews
import Derived.JoinedTies
import Derived.KernelRfl
namespace Go.Proofs.Ytihajdkipkfiiaa
/- THE CELL 'sum', in the pinned program and in every row, IS THE sha256 OF THE DUMP (.gsa) THAT YtihajdkipkfiiaaProg.lean LOADS. Nothing in Lean hashes anything: it is a label: what it is worth is what the hold of that sum in a sandbox is worth. -/
noncomputable def Try.pinned : Pinned := { name := "ytihajdkipkfiiaa", sum := "29f59b1da8076971aeded21951a3e8b14605f8dfd2205eab12c0237edfc93ed8", checked := Try.checked }
namespace Rows
def none {H : Type} : Left H := { results := [], args := [] }

/-- 'reveillelaw9.GroupOne': WHATEVER THE INPUT: true; the input reads as it did. -/
def groupOneSpec : ChangeSpec := { name := "groupOne", fn := fun _ => fun
  | [d] => { results := [.lit (.bool true)], args := [d] }
  | _ => none }
def groupOneRow : OpenClaim := { program := "ytihajdkipkfiiaa", sum := "29f59b1da8076971aeded21951a3e8b14605f8dfd2205eab12c0237edfc93ed8", func := "reveille/reveillelaw9.GroupOne", spec := "groupOne", unfollowed := true, recurses := true, apart := false }
def GroupOneSaid : Prop := groupOneRow.holds Try.pinned (OpenSpec.ofChange groupOneSpec)

/-- ITS FALSE NEIGHBOUR: 'it returns false'. Refute it at one input. -/
def groupOneWrong : ChangeSpec := { name := "groupOne", fn := fun _ => fun
  | [d] => { results := [.lit (.bool false)], args := [d] }
  | _ => none }
def GroupOneWrongFalsely : Prop := groupOneRow.holds Try.pinned (OpenSpec.ofChange groupOneWrong)

/-- 'reveillelaw8.ProcTree': WHATEVER THE INPUT: true; the input reads as it did. -/
def procTreeSpec : ChangeSpec := { name := "procTree", fn := fun _ => fun
  | [d] => { results := [.lit (.bool true)], args := [d] }
  | _ => none }
def procTreeRow : OpenClaim := { program := "ytihajdkipkfiiaa", sum := "29f59b1da8076971aeded21951a3e8b14605f8dfd2205eab12c0237edfc93ed8", func := "reveille/reveillelaw8.ProcTree", spec := "procTree", unfollowed := true, recurses := true, apart := false }
def ProcTreeSaid : Prop := procTreeRow.holds Try.pinned (OpenSpec.ofChange procTreeSpec)

/-- ITS FALSE NEIGHBOUR: 'it returns false'. Refute it at one input. -/
def procTreeWrong : ChangeSpec := { name := "procTree", fn := fun _ => fun
  | [d] => { results := [.lit (.bool false)], args := [d] }
  | _ => none }
def ProcTreeWrongFalsely : Prop := procTreeRow.holds Try.pinned (OpenSpec.ofChange procTreeWrong)

/-- 'reveillelaw8.ProcRoom': WHATEVER THE INPUT: true; the input reads as it did. -/
def procRoomSpec : ChangeSpec := { name := "procRoom", fn := fun _ => fun
  | [d1, d2] => { results := [.lit (.bool true)], args := [d1, d2] }
  | _ => none }
def procRoomRow : OpenClaim := { program := "ytihajdkipkfiiaa", sum := "29f59b1da8076971aeded21951a3e8b14605f8dfd2205eab12c0237edfc93ed8", func := "reveille/reveillelaw8.ProcRoom", spec := "procRoom", unfollowed := true, recurses := true, apart := false }
def ProcRoomSaid : Prop := procRoomRow.holds Try.pinned (OpenSpec.ofChange procRoomSpec)

/-- ITS FALSE NEIGHBOUR: 'it returns false'. Refute it at one input. -/
def procRoomWrong : ChangeSpec := { name := "procRoom", fn := fun _ => fun
  | [d1, d2] => { results := [.lit (.bool false)], args := [d1, d2] }
  | _ => none }
def ProcRoomWrongFalsely : Prop := procRoomRow.holds Try.pinned (OpenSpec.ofChange procRoomWrong)

/-- 'reveillelaw8.ProcFamily': WHATEVER THE INPUT: true; the input reads as it did. -/
def procFamilySpec : ChangeSpec := { name := "procFamily", fn := fun _ => fun
  | [d1, d2, d3] => { results := [.lit (.bool true)], args := [d1, d2, d3] }
  | _ => none }
def procFamilyRow : OpenClaim := { program := "ytihajdkipkfiiaa", sum := "29f59b1da8076971aeded21951a3e8b14605f8dfd2205eab12c0237edfc93ed8", func := "reveille/reveillelaw8.ProcFamily", spec := "procFamily", unfollowed := true, recurses := true, apart := false }
def ProcFamilySaid : Prop := procFamilyRow.holds Try.pinned (OpenSpec.ofChange procFamilySpec)

/-- ITS FALSE NEIGHBOUR: 'it returns false'. Refute it at one input. -/
def procFamilyWrong : ChangeSpec := { name := "procFamily", fn := fun _ => fun
  | [d1, d2, d3] => { results := [.lit (.bool false)], args := [d1, d2, d3] }
  | _ => none }
def ProcFamilyWrongFalsely : Prop := procFamilyRow.holds Try.pinned (OpenSpec.ofChange procFamilyWrong)

/-- 'reveillelaw19.TrackForks': WHATEVER THE INPUT: true; the input reads as it did. -/
def trackForksSpec : ChangeSpec := { name := "trackForks", fn := fun _ => fun
  | [d] => { results := [.lit (.bool true)], args := [d] }
  | _ => none }
def trackForksRow : OpenClaim := { program := "ytihajdkipkfiiaa", sum := "29f59b1da8076971aeded21951a3e8b14605f8dfd2205eab12c0237edfc93ed8", func := "reveille/reveillelaw19.TrackForks", spec := "trackForks", unfollowed := true, recurses := true, apart := false }
def TrackForksSaid : Prop := trackForksRow.holds Try.pinned (OpenSpec.ofChange trackForksSpec)

/-- ITS FALSE NEIGHBOUR: 'it returns false'. Refute it at one input. -/
def trackForksWrong : ChangeSpec := { name := "trackForks", fn := fun _ => fun
  | [d] => { results := [.lit (.bool false)], args := [d] }
  | _ => none }
def TrackForksWrongFalsely : Prop := trackForksRow.holds Try.pinned (OpenSpec.ofChange trackForksWrong)

/-- 'reveillelaw8.ProcPlays': WHATEVER THE INPUT: true; the input reads as it did. -/
def procPlaysSpec : ChangeSpec := { name := "procPlays", fn := fun _ => fun
  | [d1, d2] => { results := [.lit (.bool true)], args := [d1, d2] }
  | _ => none }
def procPlaysRow : OpenClaim := { program := "ytihajdkipkfiiaa", sum := "29f59b1da8076971aeded21951a3e8b14605f8dfd2205eab12c0237edfc93ed8", func := "reveille/reveillelaw8.ProcPlays", spec := "procPlays", unfollowed := true, recurses := true, apart := false }
def ProcPlaysSaid : Prop := procPlaysRow.holds Try.pinned (OpenSpec.ofChange procPlaysSpec)

/-- ITS FALSE NEIGHBOUR: 'it returns false'. Refute it at one input. -/
def procPlaysWrong : ChangeSpec := { name := "procPlays", fn := fun _ => fun
  | [d1, d2] => { results := [.lit (.bool false)], args := [d1, d2] }
  | _ => none }
def ProcPlaysWrongFalsely : Prop := procPlaysRow.holds Try.pinned (OpenSpec.ofChange procPlaysWrong)

/-- 'reveillelaw8.ProcSignals': WHATEVER THE INPUT: true; the input reads as it did. -/
def procSignalsSpec : ChangeSpec := { name := "procSignals", fn := fun _ => fun
  | [d1, d2, d3] => { results := [.lit (.bool true)], args := [d1, d2, d3] }
  | _ => none }
def procSignalsRow : OpenClaim := { program := "ytihajdkipkfiiaa", sum := "29f59b1da8076971aeded21951a3e8b14605f8dfd2205eab12c0237edfc93ed8", func := "reveille/reveillelaw8.ProcSignals", spec := "procSignals", unfollowed := true, recurses := true, apart := false }
def ProcSignalsSaid : Prop := procSignalsRow.holds Try.pinned (OpenSpec.ofChange procSignalsSpec)

/-- ITS FALSE NEIGHBOUR: 'it returns false'. Refute it at one input. -/
def procSignalsWrong : ChangeSpec := { name := "procSignals", fn := fun _ => fun
  | [d1, d2, d3] => { results := [.lit (.bool false)], args := [d1, d2, d3] }
  | _ => none }
def ProcSignalsWrongFalsely : Prop := procSignalsRow.holds Try.pinned (OpenSpec.ofChange procSignalsWrong)

/-- 'reveillelaw19.TrackPlays': WHATEVER THE INPUT: true; the input reads as it did. -/
def trackPlaysSpec : ChangeSpec := { name := "trackPlays", fn := fun _ => fun
  | [d] => { results := [.lit (.bool true)], args := [d] }
  | _ => none }
def trackPlaysRow : OpenClaim := { program := "ytihajdkipkfiiaa", sum := "29f59b1da8076971aeded21951a3e8b14605f8dfd2205eab12c0237edfc93ed8", func := "reveille/reveillelaw19.TrackPlays", spec := "trackPlays", unfollowed := true, recurses := true, apart := false }
def TrackPlaysSaid : Prop := trackPlaysRow.holds Try.pinned (OpenSpec.ofChange trackPlaysSpec)

/-- ITS FALSE NEIGHBOUR: 'it returns false'. Refute it at one input. -/
def trackPlaysWrong : ChangeSpec := { name := "trackPlays", fn := fun _ => fun
  | [d] => { results := [.lit (.bool false)], args := [d] }
  | _ => none }
def TrackPlaysWrongFalsely : Prop := trackPlaysRow.holds Try.pinned (OpenSpec.ofChange trackPlaysWrong)

/-- 'reveillelaw9.GroupPlays': WHATEVER THE INPUT: true; the input reads as it did. -/
def groupPlaysSpec : ChangeSpec := { name := "groupPlays", fn := fun _ => fun
  | [d] => { results := [.lit (.bool true)], args := [d] }
  | _ => none }
def groupPlaysRow : OpenClaim := { program := "ytihajdkipkfiiaa", sum := "29f59b1da8076971aeded21951a3e8b14605f8dfd2205eab12c0237edfc93ed8", func := "reveille/reveillelaw9.GroupPlays", spec := "groupPlays", unfollowed := true, recurses := true, apart := false }
def GroupPlaysSaid : Prop := groupPlaysRow.holds Try.pinned (OpenSpec.ofChange groupPlaysSpec)

/-- ITS FALSE NEIGHBOUR: 'it returns false'. Refute it at one input. -/
def groupPlaysWrong : ChangeSpec := { name := "groupPlays", fn := fun _ => fun
  | [d] => { results := [.lit (.bool false)], args := [d] }
  | _ => none }
def GroupPlaysWrongFalsely : Prop := groupPlaysRow.holds Try.pinned (OpenSpec.ofChange groupPlaysWrong)

/- THE SECOND FORM. 'bulk': how many values and letters a reading holds, each counted each time it is reached (what is shared counts as often as it is met; a slice's spare places count too). A statement '..UptoSaid' is the law's where the arguments, and the package variables that the reading takes, are together of bulk at most 1048576: NARROWER than '..Said'. Prove '..Said' where nothing that the law and all that it calls make is longer than what came in: it says more and counts as full. Else prove '..UptoSaid'. A law counts once. -/
mutual
def uptoBulk {H : Type} : DataW H → Nat
  | .lit (.string bytes) => bytes.length + 1
  | .lit _ => 1
  | .nil => 1
  | .ptr d => uptoBulk d + 1
  | .slice elems spare => uptoBulkAll elems + uptoBulkAll spare + 1
  | .agg parts => uptoBulkAll parts + 1
  | .iface _ d => uptoBulk d + 1
  | .map entries => uptoBulkEntries entries + 1
  | .held _ => 1
def uptoBulkAll {H : Type} : List (DataW H) → Nat
  | [] => 0
  | d :: r => uptoBulk d + uptoBulkAll r
def uptoBulkEntries {H : Type} : List (Lit × DataW H) → Nat
  | [] => 0
  | x :: r => uptoBulkEntry x + uptoBulkEntries r
def uptoBulkEntry {H : Type} : Lit × DataW H → Nat
  | (.string bytes, d) => bytes.length + uptoBulk d + 1
  | (_, d) => uptoBulk d + 1
 end
def uptoSmall : (H : Type) → List (DataW H) → Bool := fun _ ds => decide (uptoBulkAll ds ≤ 1048576)
def OpenSpec.upto (s : _root_.Go.ChangeSpec) : _root_.Go.OpenSpec := { _root_.Go.OpenSpec.ofChange s with cond := some uptoSmall }

/-- 'reveillelaw9.GroupOne', WHERE WHAT IT READS IS OF BULK AT MOST 1048576: true; the input reads as it did. -/
def groupOneUptoRow : OpenClaim := { program := "ytihajdkipkfiiaa", sum := "29f59b1da8076971aeded21951a3e8b14605f8dfd2205eab12c0237edfc93ed8", func := "reveille/reveillelaw9.GroupOne", spec := "groupOne", unfollowed := true, recurses := true, apart := false, narrowed := true }
def GroupOneUptoSaid : Prop := groupOneUptoRow.holds Try.pinned (OpenSpec.upto groupOneSpec)

/-- 'reveillelaw8.ProcTree', WHERE WHAT IT READS IS OF BULK AT MOST 1048576: true; the input reads as it did. -/
def procTreeUptoRow : OpenClaim := { program := "ytihajdkipkfiiaa", sum := "29f59b1da8076971aeded21951a3e8b14605f8dfd2205eab12c0237edfc93ed8", func := "reveille/reveillelaw8.ProcTree", spec := "procTree", unfollowed := true, recurses := true, apart := false, narrowed := true }
def ProcTreeUptoSaid : Prop := procTreeUptoRow.holds Try.pinned (OpenSpec.upto procTreeSpec)

/-- 'reveillelaw8.ProcRoom', WHERE WHAT IT READS IS OF BULK AT MOST 1048576: true; the input reads as it did. -/
def procRoomUptoRow : OpenClaim := { program := "ytihajdkipkfiiaa", sum := "29f59b1da8076971aeded21951a3e8b14605f8dfd2205eab12c0237edfc93ed8", func := "reveille/reveillelaw8.ProcRoom", spec := "procRoom", unfollowed := true, recurses := true, apart := false, narrowed := true }
def ProcRoomUptoSaid : Prop := procRoomUptoRow.holds Try.pinned (OpenSpec.upto procRoomSpec)

/-- 'reveillelaw8.ProcFamily', WHERE WHAT IT READS IS OF BULK AT MOST 1048576: true; the input reads as it did. -/
def procFamilyUptoRow : OpenClaim := { program := "ytihajdkipkfiiaa", sum := "29f59b1da8076971aeded21951a3e8b14605f8dfd2205eab12c0237edfc93ed8", func := "reveille/reveillelaw8.ProcFamily", spec := "procFamily", unfollowed := true, recurses := true, apart := false, narrowed := true }
def ProcFamilyUptoSaid : Prop := procFamilyUptoRow.holds Try.pinned (OpenSpec.upto procFamilySpec)

/-- 'reveillelaw19.TrackForks', WHERE WHAT IT READS IS OF BULK AT MOST 1048576: true; the input reads as it did. -/
def trackForksUptoRow : OpenClaim := { program := "ytihajdkipkfiiaa", sum := "29f59b1da8076971aeded21951a3e8b14605f8dfd2205eab12c0237edfc93ed8", func := "reveille/reveillelaw19.TrackForks", spec := "trackForks", unfollowed := true, recurses := true, apart := false, narrowed := true }
def TrackForksUptoSaid : Prop := trackForksUptoRow.holds Try.pinned (OpenSpec.upto trackForksSpec)

/-- 'reveillelaw8.ProcPlays', WHERE WHAT IT READS IS OF BULK AT MOST 1048576: true; the input reads as it did. -/
def procPlaysUptoRow : OpenClaim := { program := "ytihajdkipkfiiaa", sum := "29f59b1da8076971aeded21951a3e8b14605f8dfd2205eab12c0237edfc93ed8", func := "reveille/reveillelaw8.ProcPlays", spec := "procPlays", unfollowed := true, recurses := true, apart := false, narrowed := true }
def ProcPlaysUptoSaid : Prop := procPlaysUptoRow.holds Try.pinned (OpenSpec.upto procPlaysSpec)

/-- 'reveillelaw8.ProcSignals', WHERE WHAT IT READS IS OF BULK AT MOST 1048576: true; the input reads as it did. -/
def procSignalsUptoRow : OpenClaim := { program := "ytihajdkipkfiiaa", sum := "29f59b1da8076971aeded21951a3e8b14605f8dfd2205eab12c0237edfc93ed8", func := "reveille/reveillelaw8.ProcSignals", spec := "procSignals", unfollowed := true, recurses := true, apart := false, narrowed := true }
def ProcSignalsUptoSaid : Prop := procSignalsUptoRow.holds Try.pinned (OpenSpec.upto procSignalsSpec)

/-- 'reveillelaw19.TrackPlays', WHERE WHAT IT READS IS OF BULK AT MOST 1048576: true; the input reads as it did. -/
def trackPlaysUptoRow : OpenClaim := { program := "ytihajdkipkfiiaa", sum := "29f59b1da8076971aeded21951a3e8b14605f8dfd2205eab12c0237edfc93ed8", func := "reveille/reveillelaw19.TrackPlays", spec := "trackPlays", unfollowed := true, recurses := true, apart := false, narrowed := true }
def TrackPlaysUptoSaid : Prop := trackPlaysUptoRow.holds Try.pinned (OpenSpec.upto trackPlaysSpec)

/-- 'reveillelaw9.GroupPlays', WHERE WHAT IT READS IS OF BULK AT MOST 1048576: true; the input reads as it did. -/
def groupPlaysUptoRow : OpenClaim := { program := "ytihajdkipkfiiaa", sum := "29f59b1da8076971aeded21951a3e8b14605f8dfd2205eab12c0237edfc93ed8", func := "reveille/reveillelaw9.GroupPlays", spec := "groupPlays", unfollowed := true, recurses := true, apart := false, narrowed := true }
def GroupPlaysUptoSaid : Prop := groupPlaysUptoRow.holds Try.pinned (OpenSpec.upto groupPlaysSpec)

end Rows
end Go.Proofs.Ytihajdkipkfiiaa
