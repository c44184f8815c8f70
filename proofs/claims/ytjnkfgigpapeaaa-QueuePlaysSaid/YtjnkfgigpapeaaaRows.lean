/-
  No cell of these rows narrows 'for every input' (looked for: loops, veiled, ifaces, maps, wideKeys, modest, calm, conditions, laid).
  DERIVED. THE GIVEN ROWS OF THIS SEAT. 11 by the template 'for every input the law returns true; each argument reads behind the call as it read before'; 0 by the template 'total and deterministic' (their statements: YtjnkfgigpapeaaaTotals.lean).
  GIVEN WITH THE SEED: the statements are not yours to turn. If you find one false, say at which input.
  Laid BY PROGRAM, IN A SANDBOX (cutbox-rows.mjs): the forced cells as the released guide's own fill.sh prints them over the translation 20aef97a5a370c87… (all of the seat's roots in one cut). By AI agents, Wed Nov 11 2026. No macro, syntax, notation, axiom, sorry.
-/
import Derived.Test.YtjnkfgigpapeaaaChecked
import GoSem.Claim
import GoSem.ClaimJoined
import GoSem.ClaimMapViews
import Derived.JoinedTies
import Derived.KernelRfl
namespace Go.Proofs.Ytjnkfgigpapeaaa
/- THE CELL 'sum', in the pinned program and in every row, IS THE sha256 OF THE DUMP (.gsa) THAT YtjnkfgigpapeaaaProg.lean LOADS. Nothing in Lean hashes anything: it is a label: what it is worth is what the hold of that sum in a sandbox is worth. -/
noncomputable def Try.pinned : Pinned := { name := "ytjnkfgigpapeaaa", sum := "20aef97a5a370c873a9a731669cd9b8020eff426dacb113c2e480f277b1ce0cc", checked := Try.checked }
namespace Rows
def none {H : Type} : Left H := { results := [], args := [] }

/-- 'reveillelaw2.CivilYears': WHATEVER THE INPUT: true; the input reads as it did. -/
def civilYearsSpec : ChangeSpec := { name := "civilYears", fn := fun _ => fun
  | [d] => { results := [.lit (.bool true)], args := [d] }
  | _ => none }
def civilYearsRow : OpenClaim := { program := "ytjnkfgigpapeaaa", sum := "20aef97a5a370c873a9a731669cd9b8020eff426dacb113c2e480f277b1ce0cc", func := "reveille/reveillelaw2.CivilYears", spec := "civilYears", apart := false }
def CivilYearsSaid : Prop := civilYearsRow.holds Try.pinned (OpenSpec.ofChange civilYearsSpec)

/-- ITS FALSE NEIGHBOUR: 'it returns false'. Refute it at one input. -/
def civilYearsWrong : ChangeSpec := { name := "civilYears", fn := fun _ => fun
  | [d] => { results := [.lit (.bool false)], args := [d] }
  | _ => none }
def CivilYearsWrongFalsely : Prop := civilYearsRow.holds Try.pinned (OpenSpec.ofChange civilYearsWrong)

/-- 'reveillelaw2.CivilMonths': WHATEVER THE INPUT: true; the input reads as it did. -/
def civilMonthsSpec : ChangeSpec := { name := "civilMonths", fn := fun _ => fun
  | [d1, d2, d3] => { results := [.lit (.bool true)], args := [d1, d2, d3] }
  | _ => none }
def civilMonthsRow : OpenClaim := { program := "ytjnkfgigpapeaaa", sum := "20aef97a5a370c873a9a731669cd9b8020eff426dacb113c2e480f277b1ce0cc", func := "reveille/reveillelaw2.CivilMonths", spec := "civilMonths", unfollowed := true, recurses := true, apart := false }
def CivilMonthsSaid : Prop := civilMonthsRow.holds Try.pinned (OpenSpec.ofChange civilMonthsSpec)

/-- ITS FALSE NEIGHBOUR: 'it returns false'. Refute it at one input. -/
def civilMonthsWrong : ChangeSpec := { name := "civilMonths", fn := fun _ => fun
  | [d1, d2, d3] => { results := [.lit (.bool false)], args := [d1, d2, d3] }
  | _ => none }
def CivilMonthsWrongFalsely : Prop := civilMonthsRow.holds Try.pinned (OpenSpec.ofChange civilMonthsWrong)

/-- 'reveillelaw10.PortDatagrams': WHATEVER THE INPUT: true; the input reads as it did. -/
def portDatagramsSpec : ChangeSpec := { name := "portDatagrams", fn := fun _ => fun
  | [d] => { results := [.lit (.bool true)], args := [d] }
  | _ => none }
def portDatagramsRow : OpenClaim := { program := "ytjnkfgigpapeaaa", sum := "20aef97a5a370c873a9a731669cd9b8020eff426dacb113c2e480f277b1ce0cc", func := "reveille/reveillelaw10.PortDatagrams", spec := "portDatagrams", apart := false }
def PortDatagramsSaid : Prop := portDatagramsRow.holds Try.pinned (OpenSpec.ofChange portDatagramsSpec)

/-- ITS FALSE NEIGHBOUR: 'it returns false'. Refute it at one input. -/
def portDatagramsWrong : ChangeSpec := { name := "portDatagrams", fn := fun _ => fun
  | [d] => { results := [.lit (.bool false)], args := [d] }
  | _ => none }
def PortDatagramsWrongFalsely : Prop := portDatagramsRow.holds Try.pinned (OpenSpec.ofChange portDatagramsWrong)

/-- 'reveillelaw10.PortSockets': WHATEVER THE INPUT: true; the input reads as it did. -/
def portSocketsSpec : ChangeSpec := { name := "portSockets", fn := fun _ => fun
  | [d] => { results := [.lit (.bool true)], args := [d] }
  | _ => none }
def portSocketsRow : OpenClaim := { program := "ytjnkfgigpapeaaa", sum := "20aef97a5a370c873a9a731669cd9b8020eff426dacb113c2e480f277b1ce0cc", func := "reveille/reveillelaw10.PortSockets", spec := "portSockets", apart := false }
def PortSocketsSaid : Prop := portSocketsRow.holds Try.pinned (OpenSpec.ofChange portSocketsSpec)

/-- ITS FALSE NEIGHBOUR: 'it returns false'. Refute it at one input. -/
def portSocketsWrong : ChangeSpec := { name := "portSockets", fn := fun _ => fun
  | [d] => { results := [.lit (.bool false)], args := [d] }
  | _ => none }
def PortSocketsWrongFalsely : Prop := portSocketsRow.holds Try.pinned (OpenSpec.ofChange portSocketsWrong)

/-- 'reveillelaw2.CivilBack': WHATEVER THE INPUT: true; the input reads as it did. -/
def civilBackSpec : ChangeSpec := { name := "civilBack", fn := fun _ => fun
  | [d1, d2] => { results := [.lit (.bool true)], args := [d1, d2] }
  | _ => none }
def civilBackRow : OpenClaim := { program := "ytjnkfgigpapeaaa", sum := "20aef97a5a370c873a9a731669cd9b8020eff426dacb113c2e480f277b1ce0cc", func := "reveille/reveillelaw2.CivilBack", spec := "civilBack", apart := false }
def CivilBackSaid : Prop := civilBackRow.holds Try.pinned (OpenSpec.ofChange civilBackSpec)

/-- ITS FALSE NEIGHBOUR: 'it returns false'. Refute it at one input. -/
def civilBackWrong : ChangeSpec := { name := "civilBack", fn := fun _ => fun
  | [d1, d2] => { results := [.lit (.bool false)], args := [d1, d2] }
  | _ => none }
def CivilBackWrongFalsely : Prop := civilBackRow.holds Try.pinned (OpenSpec.ofChange civilBackWrong)

/-- 'reveillelaw10.PortOnce': WHATEVER THE INPUT: true; the input reads as it did. -/
def portOnceSpec : ChangeSpec := { name := "portOnce", fn := fun _ => fun
  | [d] => { results := [.lit (.bool true)], args := [d] }
  | _ => none }
def portOnceRow : OpenClaim := { program := "ytjnkfgigpapeaaa", sum := "20aef97a5a370c873a9a731669cd9b8020eff426dacb113c2e480f277b1ce0cc", func := "reveille/reveillelaw10.PortOnce", spec := "portOnce", apart := false }
def PortOnceSaid : Prop := portOnceRow.holds Try.pinned (OpenSpec.ofChange portOnceSpec)

/-- ITS FALSE NEIGHBOUR: 'it returns false'. Refute it at one input. -/
def portOnceWrong : ChangeSpec := { name := "portOnce", fn := fun _ => fun
  | [d] => { results := [.lit (.bool false)], args := [d] }
  | _ => none }
def PortOnceWrongFalsely : Prop := portOnceRow.holds Try.pinned (OpenSpec.ofChange portOnceWrong)

/-- 'reveillelaw13.QueueTexts': WHATEVER THE INPUT: true; the input reads as it did. -/
def queueTextsSpec : ChangeSpec := { name := "queueTexts", fn := fun _ => fun
  | [d] => { results := [.lit (.bool true)], args := [d] }
  | _ => none }
def queueTextsRow : OpenClaim := { program := "ytjnkfgigpapeaaa", sum := "20aef97a5a370c873a9a731669cd9b8020eff426dacb113c2e480f277b1ce0cc", func := "reveille/reveillelaw13.QueueTexts", spec := "queueTexts", unfollowed := true, recurses := true, apart := false }
def QueueTextsSaid : Prop := queueTextsRow.holds Try.pinned (OpenSpec.ofChange queueTextsSpec)

/-- ITS FALSE NEIGHBOUR: 'it returns false'. Refute it at one input. -/
def queueTextsWrong : ChangeSpec := { name := "queueTexts", fn := fun _ => fun
  | [d] => { results := [.lit (.bool false)], args := [d] }
  | _ => none }
def QueueTextsWrongFalsely : Prop := queueTextsRow.holds Try.pinned (OpenSpec.ofChange queueTextsWrong)

/-- 'reveillelaw13.QueueBoth': WHATEVER THE INPUT: true; the input reads as it did. -/
def queueBothSpec : ChangeSpec := { name := "queueBoth", fn := fun _ => fun
  | [d1, d2] => { results := [.lit (.bool true)], args := [d1, d2] }
  | _ => none }
def queueBothRow : OpenClaim := { program := "ytjnkfgigpapeaaa", sum := "20aef97a5a370c873a9a731669cd9b8020eff426dacb113c2e480f277b1ce0cc", func := "reveille/reveillelaw13.QueueBoth", spec := "queueBoth", unfollowed := true, recurses := true, apart := false }
def QueueBothSaid : Prop := queueBothRow.holds Try.pinned (OpenSpec.ofChange queueBothSpec)

/-- ITS FALSE NEIGHBOUR: 'it returns false'. Refute it at one input. -/
def queueBothWrong : ChangeSpec := { name := "queueBoth", fn := fun _ => fun
  | [d1, d2] => { results := [.lit (.bool false)], args := [d1, d2] }
  | _ => none }
def QueueBothWrongFalsely : Prop := queueBothRow.holds Try.pinned (OpenSpec.ofChange queueBothWrong)

/-- 'reveillelaw9.GroupNotes': WHATEVER THE INPUT: true; the input reads as it did. -/
def groupNotesSpec : ChangeSpec := { name := "groupNotes", fn := fun _ => fun
  | [d1, d2, d3] => { results := [.lit (.bool true)], args := [d1, d2, d3] }
  | _ => none }
def groupNotesRow : OpenClaim := { program := "ytjnkfgigpapeaaa", sum := "20aef97a5a370c873a9a731669cd9b8020eff426dacb113c2e480f277b1ce0cc", func := "reveille/reveillelaw9.GroupNotes", spec := "groupNotes", unfollowed := true, recurses := true, apart := false }
def GroupNotesSaid : Prop := groupNotesRow.holds Try.pinned (OpenSpec.ofChange groupNotesSpec)

/-- ITS FALSE NEIGHBOUR: 'it returns false'. Refute it at one input. -/
def groupNotesWrong : ChangeSpec := { name := "groupNotes", fn := fun _ => fun
  | [d1, d2, d3] => { results := [.lit (.bool false)], args := [d1, d2, d3] }
  | _ => none }
def GroupNotesWrongFalsely : Prop := groupNotesRow.holds Try.pinned (OpenSpec.ofChange groupNotesWrong)

/-- 'reveillelaw13.QueueAll': WHATEVER THE INPUT: true; the input reads as it did. -/
def queueAllSpec : ChangeSpec := { name := "queueAll", fn := fun _ => fun
  | [d1, d2] => { results := [.lit (.bool true)], args := [d1, d2] }
  | _ => none }
def queueAllRow : OpenClaim := { program := "ytjnkfgigpapeaaa", sum := "20aef97a5a370c873a9a731669cd9b8020eff426dacb113c2e480f277b1ce0cc", func := "reveille/reveillelaw13.QueueAll", spec := "queueAll", unfollowed := true, recurses := true, apart := false }
def QueueAllSaid : Prop := queueAllRow.holds Try.pinned (OpenSpec.ofChange queueAllSpec)

/-- ITS FALSE NEIGHBOUR: 'it returns false'. Refute it at one input. -/
def queueAllWrong : ChangeSpec := { name := "queueAll", fn := fun _ => fun
  | [d1, d2] => { results := [.lit (.bool false)], args := [d1, d2] }
  | _ => none }
def QueueAllWrongFalsely : Prop := queueAllRow.holds Try.pinned (OpenSpec.ofChange queueAllWrong)

/-- 'reveillelaw13.QueuePlays': WHATEVER THE INPUT: true; the input reads as it did. -/
def queuePlaysSpec : ChangeSpec := { name := "queuePlays", fn := fun _ => fun
  | [d1, d2] => { results := [.lit (.bool true)], args := [d1, d2] }
  | _ => none }
def queuePlaysRow : OpenClaim := { program := "ytjnkfgigpapeaaa", sum := "20aef97a5a370c873a9a731669cd9b8020eff426dacb113c2e480f277b1ce0cc", func := "reveille/reveillelaw13.QueuePlays", spec := "queuePlays", unfollowed := true, recurses := true, apart := false }
def QueuePlaysSaid : Prop := queuePlaysRow.holds Try.pinned (OpenSpec.ofChange queuePlaysSpec)

/-- ITS FALSE NEIGHBOUR: 'it returns false'. Refute it at one input. -/
def queuePlaysWrong : ChangeSpec := { name := "queuePlays", fn := fun _ => fun
  | [d1, d2] => { results := [.lit (.bool false)], args := [d1, d2] }
  | _ => none }
def QueuePlaysWrongFalsely : Prop := queuePlaysRow.holds Try.pinned (OpenSpec.ofChange queuePlaysWrong)

/- THE SECOND FORM. 'bulk': how many values and letters a reading holds, each counted each time it is reached (what is shared counts as often as it is met; a slice's spare places count too). A statement '..UptoSaid' is the law's where the arguments, and the package variables that the reading takes, are together of bulk at most 1048576: NARROWER than '..Said'. Prove '..Said' where nothing that the law and all that it calls make is longer than what came in: it says more and counts as full. Else prove '..UptoSaid'. A law counts once. -/
mutual
def uptoBulk {H : Type} : DataW H → Nat
  | .lit (.string bytes) => bytes.length + 1
  | .lit _ => 1
  | .nil => 1
  | .ptr d => uptoBulk d + 1
  | .slice elems spare => uptoBulkAll elems + uptoBulkAll spare + 1
  | .agg parts => uptoBulkAll parts + 1
  | .iface _ d => uptoBulk d + 1
  | .map entries => uptoBulkEntries entries + 1
  | .held _ => 1
def uptoBulkAll {H : Type} : List (DataW H) → Nat
  | [] => 0
  | d :: r => uptoBulk d + uptoBulkAll r
def uptoBulkEntries {H : Type} : List (Lit × DataW H) → Nat
  | [] => 0
  | x :: r => uptoBulkEntry x + uptoBulkEntries r
def uptoBulkEntry {H : Type} : Lit × DataW H → Nat
  | (.string bytes, d) => bytes.length + uptoBulk d + 1
  | (_, d) => uptoBulk d + 1
 end
def uptoSmall : (H : Type) → List (DataW H) → Bool := fun _ ds => decide (uptoBulkAll ds ≤ 1048576)
def OpenSpec.upto (s : _root_.Go.ChangeSpec) : _root_.Go.OpenSpec := { _root_.Go.OpenSpec.ofChange s with cond := some uptoSmall }

/-- 'reveillelaw2.CivilYears', WHERE WHAT IT READS IS OF BULK AT MOST 1048576: true; the input reads as it did. -/
def civilYearsUptoRow : OpenClaim := { program := "ytjnkfgigpapeaaa", sum := "20aef97a5a370c873a9a731669cd9b8020eff426dacb113c2e480f277b1ce0cc", func := "reveille/reveillelaw2.CivilYears", spec := "civilYears", apart := false, narrowed := true }
def CivilYearsUptoSaid : Prop := civilYearsUptoRow.holds Try.pinned (OpenSpec.upto civilYearsSpec)

/-- 'reveillelaw2.CivilMonths', WHERE WHAT IT READS IS OF BULK AT MOST 1048576: true; the input reads as it did. -/
def civilMonthsUptoRow : OpenClaim := { program := "ytjnkfgigpapeaaa", sum := "20aef97a5a370c873a9a731669cd9b8020eff426dacb113c2e480f277b1ce0cc", func := "reveille/reveillelaw2.CivilMonths", spec := "civilMonths", unfollowed := true, recurses := true, apart := false, narrowed := true }
def CivilMonthsUptoSaid : Prop := civilMonthsUptoRow.holds Try.pinned (OpenSpec.upto civilMonthsSpec)

/-- 'reveillelaw10.PortDatagrams', WHERE WHAT IT READS IS OF BULK AT MOST 1048576: true; the input reads as it did. -/
def portDatagramsUptoRow : OpenClaim := { program := "ytjnkfgigpapeaaa", sum := "20aef97a5a370c873a9a731669cd9b8020eff426dacb113c2e480f277b1ce0cc", func := "reveille/reveillelaw10.PortDatagrams", spec := "portDatagrams", apart := false, narrowed := true }
def PortDatagramsUptoSaid : Prop := portDatagramsUptoRow.holds Try.pinned (OpenSpec.upto portDatagramsSpec)

/-- 'reveillelaw10.PortSockets', WHERE WHAT IT READS IS OF BULK AT MOST 1048576: true; the input reads as it did. -/
def portSocketsUptoRow : OpenClaim := { program := "ytjnkfgigpapeaaa", sum := "20aef97a5a370c873a9a731669cd9b8020eff426dacb113c2e480f277b1ce0cc", func := "reveille/reveillelaw10.PortSockets", spec := "portSockets", apart := false, narrowed := true }
def PortSocketsUptoSaid : Prop := portSocketsUptoRow.holds Try.pinned (OpenSpec.upto portSocketsSpec)

/-- 'reveillelaw2.CivilBack', WHERE WHAT IT READS IS OF BULK AT MOST 1048576: true; the input reads as it did. -/
def civilBackUptoRow : OpenClaim := { program := "ytjnkfgigpapeaaa", sum := "20aef97a5a370c873a9a731669cd9b8020eff426dacb113c2e480f277b1ce0cc", func := "reveille/reveillelaw2.CivilBack", spec := "civilBack", apart := false, narrowed := true }
def CivilBackUptoSaid : Prop := civilBackUptoRow.holds Try.pinned (OpenSpec.upto civilBackSpec)

/-- 'reveillelaw10.PortOnce', WHERE WHAT IT READS IS OF BULK AT MOST 1048576: true; the input reads as it did. -/
def portOnceUptoRow : OpenClaim := { program := "ytjnkfgigpapeaaa", sum := "20aef97a5a370c873a9a731669cd9b8020eff426dacb113c2e480f277b1ce0cc", func := "reveille/reveillelaw10.PortOnce", spec := "portOnce", apart := false, narrowed := true }
def PortOnceUptoSaid : Prop := portOnceUptoRow.holds Try.pinned (OpenSpec.upto portOnceSpec)

/-- 'reveillelaw13.QueueTexts', WHERE WHAT IT READS IS OF BULK AT MOST 1048576: true; the input reads as it did. -/
def queueTextsUptoRow : OpenClaim := { program := "ytjnkfgigpapeaaa", sum := "20aef97a5a370c873a9a731669cd9b8020eff426dacb113c2e480f277b1ce0cc", func := "reveille/reveillelaw13.QueueTexts", spec := "queueTexts", unfollowed := true, recurses := true, apart := false, narrowed := true }
def QueueTextsUptoSaid : Prop := queueTextsUptoRow.holds Try.pinned (OpenSpec.upto queueTextsSpec)

/-- 'reveillelaw13.QueueBoth', WHERE WHAT IT READS IS OF BULK AT MOST 1048576: true; the input reads as it did. -/
def queueBothUptoRow : OpenClaim := { program := "ytjnkfgigpapeaaa", sum := "20aef97a5a370c873a9a731669cd9b8020eff426dacb113c2e480f277b1ce0cc", func := "reveille/reveillelaw13.QueueBoth", spec := "queueBoth", unfollowed := true, recurses := true, apart := false, narrowed := true }
def QueueBothUptoSaid : Prop := queueBothUptoRow.holds Try.pinned (OpenSpec.upto queueBothSpec)

/-- 'reveillelaw9.GroupNotes', WHERE WHAT IT READS IS OF BULK AT MOST 1048576: true; the input reads as it did. -/
def groupNotesUptoRow : OpenClaim := { program := "ytjnkfgigpapeaaa", sum := "20aef97a5a370c873a9a731669cd9b8020eff426dacb113c2e480f277b1ce0cc", func := "reveille/reveillelaw9.GroupNotes", spec := "groupNotes", unfollowed := true, recurses := true, apart := false, narrowed := true }
def GroupNotesUptoSaid : Prop := groupNotesUptoRow.holds Try.pinned (OpenSpec.upto groupNotesSpec)

/-- 'reveillelaw13.QueueAll', WHERE WHAT IT READS IS OF BULK AT MOST 1048576: true; the input reads as it did. -/
def queueAllUptoRow : OpenClaim := { program := "ytjnkfgigpapeaaa", sum := "20aef97a5a370c873a9a731669cd9b8020eff426dacb113c2e480f277b1ce0cc", func := "reveille/reveillelaw13.QueueAll", spec := "queueAll", unfollowed := true, recurses := true, apart := false, narrowed := true }
def QueueAllUptoSaid : Prop := queueAllUptoRow.holds Try.pinned (OpenSpec.upto queueAllSpec)

/-- 'reveillelaw13.QueuePlays', WHERE WHAT IT READS IS OF BULK AT MOST 1048576: true; the input reads as it did. -/
def queuePlaysUptoRow : OpenClaim := { program := "ytjnkfgigpapeaaa", sum := "20aef97a5a370c873a9a731669cd9b8020eff426dacb113c2e480f277b1ce0cc", func := "reveille/reveillelaw13.QueuePlays", spec := "queuePlays", unfollowed := true, recurses := true, apart := false, narrowed := true }
def QueuePlaysUptoSaid : Prop := queuePlaysUptoRow.holds Try.pinned (OpenSpec.upto queuePlaysSpec)

end Rows
end Go.Proofs.Ytjnkfgigpapeaaa
