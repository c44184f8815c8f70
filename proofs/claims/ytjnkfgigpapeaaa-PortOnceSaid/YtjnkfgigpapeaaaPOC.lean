/- PortOnce: its loop's states. -/
import Derived.Test.YtjnkfgigpapeaaaPort2C
import Derived.Test.YtjnkfgigpapeaaaPORun
namespace Go.Proofs.Ytjnkfgigpapeaaa
open Go Go.RowKit
set_option linter.unusedVariables false
abbrev poLive (ao : Option Addr) (bs : List Int) (cap b2 : Nat) (gs : List Int) (ao1 : Option Addr) (cap1 : Nat) (last i : Int) : List (Nat × SV) := [(0, .vec 0 ao bs.length cap), (2, .bool false), (3, .ptr 2 b2 0), (4, .vec 4 ao1 gs.length cap1), (5, .int .i64 last), (6, .int .i64 i)]
abbrev poHeap (c0 : Ch) (ao : Option Addr) (bs : List Int) (cap b1 b2 b3 : Nat) (gs : List Int) (ao1 : Option Addr) (cap1 : Nat) (cs : List (Int × ByteArray)) (ao2 : Option Addr) (cap2 : Nat) (last : Int) : List Ent := [⟨.sl ao cap, .roL c0 1 encByte bs 0⟩, ⟨.blk b1, .mapV none [(.s ⟨#[115]⟩, .ptr 3 b3 0)]⟩, ⟨.blk b2, .cells [.map 1 b1, .raw (.slice none 0 0), .int .i64 last] 120⟩, ⟨.blk b3, .cells [.vec 5 ao2 cs.length cap2] 125⟩, ⟨.sl ao1 cap1, .vecL 3 1 encInt gs 0⟩, ⟨.sl ao2 cap2, .vecL 52 2 encDg cs (0, .empty)⟩]
end Go.Proofs.Ytjnkfgigpapeaaa
