/- civil: what its functions say, as contracts. -/
import Derived.Test.YtjnkfgigpapeaaaRun
namespace Go.Proofs.Ytjnkfgigpapeaaa
open Go Go.RowKit
set_option linter.unusedVariables false
set_option linter.unusedSimpArgs false
set_option linter.unnecessarySimpa false

def leapB (y : Int) : Bool := y % 4 == 0 && (y % 100 != 0 || y % 400 == 0)
def leapsI (y : Int) : Int := y / 4 - y / 100 + y / 400
def beginsI (y : Int) : Int := 365 * (y - 1970) + leapsI (y - 1) - leapsI 1969
def lenI (y m : Int) : Int :=
  if y < 1970 ∨ y > 2200 ∨ m < 1 ∨ m > 12 then 0 else if m = 2 then (if leapB y then 29 else 28) else if m = 4 ∨ m = 6 ∨ m = 9 ∨ m = 11 then 30 else 31
def isB (y m d : Int) : Bool := decide (d ≥ 1) && decide (d ≤ lenI y m)

def leapC : Ctr := fun args hs N => match args with
  | [.int .i64 y] => 0 ≤ y ∧ N hs (.bool (leapB y))
  | _ => False
def leapsC : Ctr := fun args hs N => match args with
  | [.int .i64 y] => (0 ≤ y ∧ y ≤ 1000000) ∧ N hs (.int .i64 (leapsI y))
  | _ => False
def beginsC : Ctr := fun args hs N => match args with
  | [.int .i64 y] => (1 ≤ y ∧ y ≤ 1000000) ∧ N hs (.int .i64 (beginsI y))
  | _ => False
def lengthC : Ctr := fun args hs N => match args with
  | [.int .i64 y, .int .i64 m] => N hs (.int .i64 (lenI y m))
  | _ => False
def isC : Ctr := fun args hs N => match args with
  | [.agg [.int .i64 y, .int .i64 m, .int .i64 d]] => N hs (.bool (isB y m d))
  | _ => False

def inB (n b : Int) : Bool := decide (n ≥ 0) && decide (n < b)
def inC : Ctr := fun args hs N => match args with
  | [.int .i64 n, .int .i64 b] => N hs (.bool (inB n b))
  | _ => False
def weekdayI (n : Int) : Int := (n + 3) % 7
def weekdayC : Ctr := fun args hs N => match args with
  | [.int .i64 n] => (-1000000 ≤ n ∧ n ≤ 1000000) ∧ N hs (.int .i64 (weekdayI n))
  | _ => False

/-- The days of the first k months. -/
def cumI (y : Int) : Nat → Int
  | 0 => 0
  | k + 1 => cumI y k + lenI y (k + 1)
def daysI (y m d : Int) : Int := beginsI y + d - 1 + cumI y (m - 1).toNat
def daysC : Ctr := fun args hs N => match args with
  | [.agg [.int .i64 y, .int .i64 m, .int .i64 d]] => match isB y m d with
    | true => N hs (.tuple [.int .i64 (daysI y m d), .int .i64 0])
    | false => N hs (.tuple [.int .i64 0, .int .i64 20])
  | _ => False

def dateP (n y m d : Int) : Prop := 1970 ≤ y ∧ y ≤ 2200 ∧ 1 ≤ m ∧ m ≤ 12 ∧ 1 ≤ d ∧ d ≤ lenI y m ∧ daysI y m d = n
def dateC : Ctr := fun args hs N => match args with
  | [.int .i64 n] => match decide (0 ≤ n) && decide (n < 84371) with
    | true => ∀ y m d, dateP n y m d → N hs (.tuple [.agg [.int .i64 y, .int .i64 m, .int .i64 d], .int .i64 0])
    | false => N hs (.tuple [.agg [.int .i64 0, .int .i64 0, .int .i64 0], .int .i64 20])
  | _ => False

def civ1 : Tbl := [(97, leapC), (96, leapsC)]
def civ2 : Tbl := (67, beginsC) :: (68, lengthC) :: (76, inC) :: (30, weekdayC) :: civ1
def civ3 : Tbl := (17, isC) :: civ2
def civ4 : Tbl := (15, daysC) :: (29, dateC) :: civ3
def momentC : Ctr := fun args hs N => match args with
  | [.int .i64 t] => t ≤ 9223372036854775807 ∧ match decide (0 ≤ t) && decide (t < 7289654400) with
    | true => ∀ y m d, dateP (t / 86400) y m d → N hs (.tuple [.agg [.int .i64 y, .int .i64 m, .int .i64 d, .int .i64 (t % 86400 / 3600), .int .i64 (t % 86400 / 60 % 60), .int .i64 (t % 86400 % 60)], .int .i64 0])
    | false => N hs (.tuple [.agg [.int .i64 0, .int .i64 0, .int .i64 0, .int .i64 0, .int .i64 0, .int .i64 0], .int .i64 20])
  | _ => False
def unixC : Ctr := fun args hs N => match args with
  | [.agg [.int .i64 y, .int .i64 m, .int .i64 d, .int .i64 h, .int .i64 mi, .int .i64 s]] => match isB y m d && (inB h 24 && (inB mi 60 && inB s 60)) with
    | true => N hs (.tuple [.int .i64 (daysI y m d * 86400 + ((h * 60 + mi) * 60 + s)), .int .i64 0])
    | false => N hs (.tuple [.int .i64 0, .int .i64 20])
  | _ => False
def civ5 : Tbl :=
  (31, momentC) :: (32, unixC) ::
  civ4
end Go.Proofs.Ytjnkfgigpapeaaa
