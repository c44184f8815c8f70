/- Layings of the kit's contracts for slices.Sorted and maps.Keys at this program, in plain words. -/
import Derived.Shelf.SlIterI.Nil
import Derived.Shelf.SlIter.Nil
import Derived.Shelf.SortM.Plain
import Derived.Shelf.SortM.SortNone
import Derived.Ground.GgzProg
import Derived.Ground.SlgmProg
import Derived.Shelf.SlGeneric
import Derived.Test.YtihajdkipkfiiaaProg
namespace Go.Proofs.Ytihajdkipkfiiaa
open Go.Shelf
def keysG_ren : Go.Shelf.Ren := ⟨fun | 7 => 96 | 10 => 110 | n => n, fun | 23 => 120 | 26 => 3 | 3 => 145 | 28 => 61 | 0 => 0 | 27 => 60 | 33 => 30 | 4 => 4 | n => n, fun | n => n⟩
theorem keysG : Go.Proofs.SlLaysZI.n7 Try.prog keysG_ren := {
  mixed := by kernel_rfl
  f7 := ⟨Try.f96.name, by decide, Try.func96.trans (congrArg some (by kernel_rfl))⟩
  f10 := ⟨Try.f110.name, by decide, Try.func110.trans (congrArg some (by kernel_rfl))⟩
  t0 := Try.underlying0
  a0 := Try.isAgg0
  z0 := Try.sizeOf0
  v0 := Try.zeroValue0
  t4 := Try.underlying4
  a4 := Try.isAgg4
  z4 := Try.sizeOf4
  v4 := Try.zeroValue4
  t23 := Try.underlying120
  a23 := Try.isAgg120
  z23 := Try.sizeOf120
  v23 := Try.zeroValue120
  t26 := Try.underlying3
  a26 := Try.isAgg3
  z26 := Try.sizeOf3
  v26 := Try.zeroValue3
  t27 := Try.underlying60
  a27 := Try.isAgg60
  z27 := Try.sizeOf60
  v27 := Try.zeroValue60
  t28 := Try.underlying61
  a28 := Try.isAgg61
  z28 := Try.sizeOf61
  v28 := Try.zeroValue61
  t33 := Try.underlying30
  a33 := Try.isAgg30
  z33 := Try.sizeOf30
  v33 := Try.zeroValue30 }
end Go.Proofs.Ytihajdkipkfiiaa
