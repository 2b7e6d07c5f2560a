/-
  Where a function of Go's library stands at this program: the shelf's structure, paid.
-/
import Derived.Shelf.SlIter.Nil
import Derived.Test.YtebjiimlcnmfpaaProg
set_option linter.unusedVariables false
set_option linter.unusedSimpArgs false
namespace Go.Proofs.Ytebjiimlcnmfpaa
open Go Go.Proofs Go.Shelf
def sortedStr_ren : Go.Shelf.Ren := ⟨fun | 6 => 36 | 8 => 50 | 9 => 51 | 11 => 67 | 13 => 66 | 12 => 68 | 23 => 83 | 24 => 84 | 14 => 85 | 15 => 86 | 16 => 87 | 17 => 88 | 18 => 89 | 19 => 90 | 20 => 91 | 21 => 92 | 22 => 93 | 25 => 109 | 26 => 104 | 27 => 105 | 28 => 110 | 29 => 111 | 30 => 112 | 31 => 117 | n => n, fun | 26 => 9 | 28 => 77 | 24 => 53 | 0 => 0 | 3 => 3 | 37 => 101 | 48 => 120 | 50 => 122 | 4 => 4 | 40 => 112 | 39 => 111 | 45 => 117 | 5 => 5 | 9 => 9 | 51 => 135 | 55 => 139 | 57 => 145 | 58 => 31 | 33 => 89 | n => n, fun | n => n⟩
set_option maxRecDepth 100000 in
theorem sortedStr : Go.Proofs.SlLaysZ.n6 Try.prog sortedStr_ren := {
  mixed := by kernel_rfl,
  f6 := ⟨Try.f36.name, by decide, Try.func36.trans (congrArg some (by kernel_rfl))⟩,
  f8 := ⟨Try.f50.name, by decide, Try.func50.trans (congrArg some (by kernel_rfl))⟩,
  f11 := ⟨Try.f67.name, by decide, Try.func67.trans (congrArg some (by kernel_rfl))⟩,
  t0 := Try.underlying0,
  a0 := Try.isAgg0,
  z0 := Try.sizeOf0,
  v0 := Try.zeroValue0,
  t24 := Try.underlying53,
  a24 := Try.isAgg53,
  z24 := Try.sizeOf53,
  v24 := Try.zeroValue53,
  t26 := Try.underlying9,
  a26 := Try.isAgg9,
  z26 := Try.sizeOf9,
  v26 := Try.zeroValue9,
  t28 := Try.underlying77,
  a28 := Try.isAgg77,
  z28 := Try.sizeOf77,
  v28 := Try.zeroValue77,
  i26 := by kernel_rfl }
end Go.Proofs.Ytebjiimlcnmfpaa
