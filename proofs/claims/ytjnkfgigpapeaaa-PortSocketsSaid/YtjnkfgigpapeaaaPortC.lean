/- port: its functions in line; the law's loop. -/
import Derived.Test.YtjnkfgigpapeaaaAid
import Derived.Test.YtjnkfgigpapeaaaTab
namespace Go.Proofs.Ytjnkfgigpapeaaa
open Go Go.RowKit
set_option linter.unusedVariables false
def encByte (x : Int) : List SV := [.int .u8 x]
def encInt (x : Int) : List SV := [.int .i64 x]
def encDg (x : Int × ByteArray) : List SV := [.int .i64 x.1, .str x.2]
def port1 : Tbl := [(71, inl Try.prog [] false Try.f71 600), (72, inl Try.prog [] false Try.f72 600), (73, inl Try.prog [] false Try.f73 600), (74, inl Try.prog [] false Try.f74 600)]
def port2 : Tbl := (21, inl Try.prog [] false Try.f21 600) :: (22, inl Try.prog port1 false Try.f22 600) :: (23, inl Try.prog port1 false Try.f23 600) :: (24, inl Try.prog port1 false Try.f24 600) :: (25, inl Try.prog port1 false Try.f25 600) :: (26, inl Try.prog port1 false Try.f26 600) :: (27, inl Try.prog port1 false Try.f27 600) :: port1
def trueC : Ctr := fun args hs N => match args with
  | [] => N hs (.bool true)
  | _ => False
def port3 : Tbl := (20, trueC) :: port2
end Go.Proofs.Ytjnkfgigpapeaaa
