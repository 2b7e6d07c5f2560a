/-
  Where a function of Go's library stands at this program: the shelf's structure, paid.
-/
import Derived.Shelf.SlIter.Nil
import Derived.Test.YthjgmccpbcelgaaProg
set_option linter.unusedVariables false
set_option linter.unusedSimpArgs false
namespace Go.Proofs.Ythjgmccpbcelgaa
open Go Go.Proofs Go.Shelf
def keysStr_ren : Go.Shelf.Ren := ⟨fun | 7 => 110 | 10 => 134 | n => n, fun | 23 => 123 | 26 => 9 | 3 => 4 | 28 => 126 | 0 => 0 | 27 => 125 | 33 => 144 | 4 => 4 | n => n, fun | n => n⟩
set_option maxRecDepth 100000 in
theorem keysStr : Go.Proofs.SlLaysZ.n7 Try.prog keysStr_ren := {
  mixed := by kernel_rfl,
  f7 := ⟨Try.f110.name, by decide, Try.func110.trans (congrArg some (by kernel_rfl))⟩,
  f10 := ⟨Try.f134.name, by decide, Try.func134.trans (congrArg some (by kernel_rfl))⟩,
  t0 := Try.underlying0,
  a0 := Try.isAgg0,
  z0 := Try.sizeOf0,
  v0 := Try.zeroValue0,
  t4 := Try.underlying4,
  a4 := Try.isAgg4,
  z4 := Try.sizeOf4,
  v4 := Try.zeroValue4,
  t23 := Try.underlying123,
  a23 := Try.isAgg123,
  z23 := Try.sizeOf123,
  v23 := Try.zeroValue123,
  t26 := Try.underlying9,
  a26 := Try.isAgg9,
  z26 := Try.sizeOf9,
  v26 := Try.zeroValue9,
  t27 := Try.underlying125,
  a27 := Try.isAgg125,
  z27 := Try.sizeOf125,
  v27 := Try.zeroValue125,
  t28 := Try.underlying126,
  a28 := Try.isAgg126,
  z28 := Try.sizeOf126,
  v28 := Try.zeroValue126,
  t33 := Try.underlying144,
  a33 := Try.isAgg144,
  z33 := Try.sizeOf144,
  v33 := Try.zeroValue144 }
end Go.Proofs.Ythjgmccpbcelgaa
