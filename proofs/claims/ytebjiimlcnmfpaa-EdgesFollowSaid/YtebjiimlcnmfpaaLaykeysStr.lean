/-
  Where a function of Go's library stands at this program: the shelf's structure, paid.
-/
import Derived.Shelf.SlIter.Nil
import Derived.Test.YtebjiimlcnmfpaaProg
set_option linter.unusedVariables false
set_option linter.unusedSimpArgs false
namespace Go.Proofs.Ytebjiimlcnmfpaa
open Go Go.Proofs Go.Shelf
def keysStr_ren : Go.Shelf.Ren := ⟨fun | 7 => 37 | 10 => 52 | n => n, fun | 23 => 74 | 26 => 9 | 3 => 4 | 28 => 77 | 0 => 0 | 27 => 76 | 33 => 89 | 4 => 4 | n => n, fun | n => n⟩
set_option maxRecDepth 100000 in
theorem keysStr : Go.Proofs.SlLaysZ.n7 Try.prog keysStr_ren := {
  mixed := by kernel_rfl,
  f7 := ⟨Try.f37.name, by decide, Try.func37.trans (congrArg some (by kernel_rfl))⟩,
  f10 := ⟨Try.f52.name, by decide, Try.func52.trans (congrArg some (by kernel_rfl))⟩,
  t0 := Try.underlying0,
  a0 := Try.isAgg0,
  z0 := Try.sizeOf0,
  v0 := Try.zeroValue0,
  t4 := Try.underlying4,
  a4 := Try.isAgg4,
  z4 := Try.sizeOf4,
  v4 := Try.zeroValue4,
  t23 := Try.underlying74,
  a23 := Try.isAgg74,
  z23 := Try.sizeOf74,
  v23 := Try.zeroValue74,
  t26 := Try.underlying9,
  a26 := Try.isAgg9,
  z26 := Try.sizeOf9,
  v26 := Try.zeroValue9,
  t27 := Try.underlying76,
  a27 := Try.isAgg76,
  z27 := Try.sizeOf76,
  v27 := Try.zeroValue76,
  t28 := Try.underlying77,
  a28 := Try.isAgg77,
  z28 := Try.sizeOf77,
  v28 := Try.zeroValue77,
  t33 := Try.underlying89,
  a33 := Try.isAgg89,
  z33 := Try.sizeOf89,
  v33 := Try.zeroValue89 }
end Go.Proofs.Ytebjiimlcnmfpaa
