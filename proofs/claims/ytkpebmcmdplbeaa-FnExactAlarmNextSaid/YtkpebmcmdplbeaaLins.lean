/- The library's insertion sort at ints, laid at this program (the text is that of the kit's tool lay-plain). No statement is proved here. -/
import Derived.Test.YtkpebmcmdplbeaaChecked
import Derived.Shelf.SlSortCmp.Insertion
import Derived.Shelf.SlGeneric
import Derived.Ground.SlsfProg
namespace Go.Proofs.Ytkpebmcmdplbeaa
open Go.Shelf
def lins_ren : Go.Shelf.Ren := ⟨fun | 20 => 22 | n => n, fun | 24 => 3 | 22 => 34 | 3 => 3 | 25 => 40 | 4 => 4 | 0 => 0 | n => n, fun | n => n⟩
theorem lins : Go.Proofs.SlLaysF.n20 Try.prog lins_ren := {
  mixed := by kernel_rfl
  f20 := ⟨Try.f22.name, by decide, Try.func22.trans (congrArg some (by kernel_rfl))⟩
  t0 := Try.underlying0
  a0 := Try.isAgg0
  z0 := Try.sizeOf0
  v0 := Try.zeroValue0
  t3 := Try.underlying3
  a3 := Try.isAgg3
  z3 := Try.sizeOf3
  v3 := Try.zeroValue3
  t4 := Try.underlying4
  a4 := Try.isAgg4
  z4 := Try.sizeOf4
  v4 := Try.zeroValue4
  t22 := Try.underlying34
  a22 := Try.isAgg34
  z22 := Try.sizeOf34
  v22 := Try.zeroValue34
  a24 := Try.isAgg3
  z24 := Try.sizeOf3
  t25 := Try.underlying40
  a25 := Try.isAgg40
  z25 := Try.sizeOf40
  v25 := Try.zeroValue40 }
end Go.Proofs.Ytkpebmcmdplbeaa
