/- queue.Queue[string]: its functions in line; QueueTexts' states. -/
import Derived.Test.YtjnkfgigpapeaaaQS2
import Derived.Test.YtjnkfgigpapeaaaQB
import Derived.Test.YtjnkfgigpapeaaaTab
namespace Go.Proofs.Ytjnkfgigpapeaaa
open Go Go.RowKit
set_option linter.unusedVariables false
theorem RS_0 : RS 79 (fun a b : ByteArray => sLt a b) := .inl ⟨rfl, rfl⟩
theorem RS_1 : RS 36 (fun a b : ByteArray => decide ((a.size : Int) < (b.size : Int))) := .inr (⟨rfl, rfl⟩)
def encStr (x : ByteArray) : List SV := [.str x]
def qTS3 : Tbl := [(80, hpushC 140 2 encItS (ByteArray.empty, (0 : Int)) 138 24 RS), (81, hpopC 140 2 encItS (ByteArray.empty, (0 : Int)) 138 RS), (39, inl Try.prog [] false Try.f39 100)]
def qTS5 : Tbl := (34, trueC13) :: (37, inl Try.prog qTS3 false Try.f37 200) :: (38, inl Try.prog qTS3 false Try.f38 200) :: (35, inl Try.prog [] false Try.f35 200) :: qTS3
theorem qTS3_ok : AllOk Try.prog qTS3 := ⟨qShpush_ok, qShpop_ok, inl_ok trivial hmQS Try.func39 (by kernel_rfl), trivial⟩
theorem qTS5_ok : AllOk Try.prog qTS5 := ⟨known13_ok, inl_ok qTS3_ok hmQS Try.func37 (by kernel_rfl), inl_ok qTS3_ok hmQS Try.func38 (by kernel_rfl), inl_ok trivial hmQS Try.func35 (by kernel_rfl), qTS3_ok⟩
abbrev qtHeap (ao : Option Addr) (cap : Nat) (bs : List ByteArray) (qa : Nat) (aoa : Option Addr) (capa : Nat) (xs : List (ByteArray × Int)) (na : Int) : List Ent :=
  [⟨.sl ao cap, .roL 1 encStr bs .empty⟩, ⟨.blk qa, .cells [.vec 2 aoa xs.length capa, .func (.func 36) [] [], .int .i64 na] 136⟩, ⟨.sl aoa capa, .vecL 140 2 encItS xs (ByteArray.empty, (0 : Int))⟩]
abbrev qtHeap2 (ao : Option Addr) (cap : Nat) (bs : List ByteArray) (qa : Nat) (aoa : Option Addr) (capa : Nat) (xs : List (ByteArray × Int)) (na : Int) (aol : Option Addr) (capl : Nat) (ls : List ByteArray) : List Ent :=
  [⟨.sl ao cap, .roL 1 encStr bs .empty⟩, ⟨.blk qa, .cells [.vec 2 aoa xs.length capa, .func (.func 36) [] [], .int .i64 na] 136⟩, ⟨.sl aoa capa, .vecL 140 2 encItS xs (ByteArray.empty, (0 : Int))⟩, ⟨.sl aol capl, .vecL 9 1 encStr ls .empty⟩]
end Go.Proofs.Ytjnkfgigpapeaaa
