/- The library's insertion sort at ints, laid at this program (the text is that of the kit's tool lay-plain). No statement is proved here. -/
import Derived.Test.YtlhfkidgmdojjaaDoorChecked
import Derived.Shelf.SlSortCmp.Insertion
import Derived.Shelf.SlGeneric
import Derived.Ground.SlsfProg
namespace Go.Proofs.YtlhfkidgmdojjaaDoor
open Go.Shelf
def lins_ren : Go.Shelf.Ren := ⟨fun | 20 => 49 | n => n, fun | 24 => 3 | 22 => 26 | 3 => 3 | 25 => 55 | 4 => 4 | 0 => 0 | n => n, fun | n => n⟩
theorem lins : Go.Proofs.SlLaysF.n20 Tryd.prog lins_ren := {
  mixed := by kernel_rfl
  f20 := ⟨Tryd.f49.name, by decide, Tryd.func49.trans (congrArg some (by kernel_rfl))⟩
  t0 := Tryd.underlying0
  a0 := Tryd.isAgg0
  z0 := Tryd.sizeOf0
  v0 := Tryd.zeroValue0
  t3 := Tryd.underlying3
  a3 := Tryd.isAgg3
  z3 := Tryd.sizeOf3
  v3 := Tryd.zeroValue3
  t4 := Tryd.underlying4
  a4 := Tryd.isAgg4
  z4 := Tryd.sizeOf4
  v4 := Tryd.zeroValue4
  t22 := Tryd.underlying26
  a22 := Tryd.isAgg26
  z22 := Tryd.sizeOf26
  v22 := Tryd.zeroValue26
  a24 := Tryd.isAgg3
  z24 := Tryd.sizeOf3
  t25 := Tryd.underlying55
  a25 := Tryd.isAgg55
  z25 := Tryd.sizeOf55
  v25 := Tryd.zeroValue55 }
end Go.Proofs.YtlhfkidgmdojjaaDoor
