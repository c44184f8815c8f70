/- port: Waiting in line, with a contract of Clone; PortSockets' states. -/
import Derived.Test.YtjnkfgigpapeaaaPort
import Derived.Test.YtjnkfgigpapeaaaCl
import Derived.Test.YtjnkfgigpapeaaaTab
namespace Go.Proofs.Ytjnkfgigpapeaaa
open Go Go.RowKit
set_option linter.unusedVariables false
def port45 : Tbl := (75, cloneC 52 2 24) :: port3
def port5 : Tbl := (28, inl Try.prog port45 false Try.f28 600) :: port45
theorem port45_ok : AllOk Try.prog port45 := ⟨cloneConn_ok, port3_ok⟩
theorem port5_ok : AllOk Try.prog port5 := ⟨inl_ok port45_ok hmP Try.func28 (by kernel_rfl), port45_ok⟩
/-- A socket: the numbers that wait, as the law says, and as the port has them. -/
structure PSL where
  ws : List Int
  cs : List (Int × ByteArray)
  cap1 : Nat
  cap2 : Nat
  ao1 : Option Addr
  ao2 : Option Addr
abbrev psHeap (c0 : Ch) (ao : Option Addr) (bs : List Int) (cap bn b1 b2 q0 q1 q2 bw : Nat) (x y z : PSL) (last : Int) : List Ent :=
  [⟨.sl ao cap, .roL c0 1 encByte bs 0⟩, ⟨.blk bn, .cells [.str ⟨#[97]⟩, .str ⟨#[98]⟩, .str ⟨#[99]⟩] 47⟩,
   ⟨.blk b1, .mapV none [(.s ⟨#[97]⟩, .ptr 4 q0 0), (.s ⟨#[98]⟩, .ptr 5 q1 0), (.s ⟨#[99]⟩, .ptr 6 q2 0)]⟩, ⟨.blk b2, .cells [.map 2 b1, .raw (.slice none 0 0), .int .i64 last] 120⟩,
   ⟨.blk q0, .cells [.vec 11 x.ao2 x.cs.length x.cap2] 125⟩, ⟨.blk q1, .cells [.vec 12 y.ao2 y.cs.length y.cap2] 125⟩, ⟨.blk q2, .cells [.vec 13 z.ao2 z.cs.length z.cap2] 125⟩,
   ⟨.blk bw, .cells [.vec 8 x.ao1 x.ws.length x.cap1, .vec 9 y.ao1 y.ws.length y.cap1, .vec 10 z.ao1 z.ws.length z.cap1] 49⟩,
   ⟨.sl x.ao1 x.cap1, .vecL 3 1 encInt x.ws 0⟩, ⟨.sl y.ao1 y.cap1, .vecL 3 1 encInt y.ws 0⟩, ⟨.sl z.ao1 z.cap1, .vecL 3 1 encInt z.ws 0⟩,
   ⟨.sl x.ao2 x.cap2, .vecL 52 2 encDg x.cs (0, .empty)⟩, ⟨.sl y.ao2 y.cap2, .vecL 52 2 encDg y.cs (0, .empty)⟩, ⟨.sl z.ao2 z.cap2, .vecL 52 2 encDg z.cs (0, .empty)⟩]
end Go.Proofs.Ytjnkfgigpapeaaa
