/- Layings of the kit's contracts for slices.Sorted and maps.Keys at this program, in plain words. -/
import Derived.Shelf.SlIterI.Nil
import Derived.Shelf.SlIter.Nil
import Derived.Shelf.SortM.Plain
import Derived.Shelf.SortM.SortNone
import Derived.Ground.GgzProg
import Derived.Ground.SlgmProg
import Derived.Shelf.SlGeneric
import Derived.Test.YtihajdkipkfiiaaProg
namespace Go.Proofs.Ytihajdkipkfiiaa
open Go.Shelf
def keysT_ren : Go.Shelf.Ren := ⟨fun | 7 => 81 | 10 => 101 | n => n, fun | 23 => 119 | 26 => 3 | 3 => 145 | 28 => 61 | 0 => 0 | 27 => 60 | 33 => 30 | 4 => 4 | n => n, fun | n => n⟩
theorem keysT : Go.Proofs.SlLaysZI.n7 Try.prog keysT_ren := {
  mixed := by kernel_rfl
  f7 := ⟨Try.f81.name, by decide, Try.func81.trans (congrArg some (by kernel_rfl))⟩
  f10 := ⟨Try.f101.name, by decide, Try.func101.trans (congrArg some (by kernel_rfl))⟩
  t0 := Try.underlying0
  a0 := Try.isAgg0
  z0 := Try.sizeOf0
  v0 := Try.zeroValue0
  t4 := Try.underlying4
  a4 := Try.isAgg4
  z4 := Try.sizeOf4
  v4 := Try.zeroValue4
  t23 := Try.underlying119
  a23 := Try.isAgg119
  z23 := Try.sizeOf119
  v23 := Try.zeroValue119
  t26 := Try.underlying3
  a26 := Try.isAgg3
  z26 := Try.sizeOf3
  v26 := Try.zeroValue3
  t27 := Try.underlying60
  a27 := Try.isAgg60
  z27 := Try.sizeOf60
  v27 := Try.zeroValue60
  t28 := Try.underlying61
  a28 := Try.isAgg61
  z28 := Try.sizeOf61
  v28 := Try.zeroValue61
  t33 := Try.underlying30
  a33 := Try.isAgg30
  z33 := Try.sizeOf30
  v33 := Try.zeroValue30 }
end Go.Proofs.Ytihajdkipkfiiaa
