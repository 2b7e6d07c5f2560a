/-
  Where a function of Go's library stands at this program: the shelf's structure, paid.
-/
import Derived.Shelf.SlIter.Nil
import Derived.Test.YthjgmccpbcelgaaProg
set_option linter.unusedVariables false
set_option linter.unusedSimpArgs false
namespace Go.Proofs.Ythjgmccpbcelgaa
open Go Go.Proofs Go.Shelf
def sortedStr_ren : Go.Shelf.Ren := ⟨fun | 6 => 109 | 8 => 132 | 9 => 133 | 11 => 149 | 13 => 127 | 12 => 150 | 23 => 147 | 24 => 148 | 14 => 165 | 15 => 166 | 16 => 167 | 17 => 168 | 18 => 169 | 19 => 170 | 20 => 171 | 21 => 172 | 22 => 173 | 25 => 179 | 26 => 161 | 27 => 162 | 28 => 180 | 29 => 181 | 30 => 182 | 31 => 184 | n => n, fun | 26 => 9 | 28 => 126 | 24 => 81 | 0 => 0 | 3 => 3 | 37 => 139 | 48 => 156 | 50 => 158 | 4 => 4 | 40 => 150 | 39 => 149 | 45 => 108 | 5 => 5 | 9 => 9 | 51 => 167 | 55 => 171 | 57 => 180 | 58 => 25 | 33 => 144 | n => n, fun | n => n⟩
set_option maxRecDepth 100000 in
theorem sortedStr : Go.Proofs.SlLaysZ.n6 Try.prog sortedStr_ren := {
  mixed := by kernel_rfl,
  f6 := ⟨Try.f109.name, by decide, Try.func109.trans (congrArg some (by kernel_rfl))⟩,
  f8 := ⟨Try.f132.name, by decide, Try.func132.trans (congrArg some (by kernel_rfl))⟩,
  f11 := ⟨Try.f149.name, by decide, Try.func149.trans (congrArg some (by kernel_rfl))⟩,
  t0 := Try.underlying0,
  a0 := Try.isAgg0,
  z0 := Try.sizeOf0,
  v0 := Try.zeroValue0,
  t24 := Try.underlying81,
  a24 := Try.isAgg81,
  z24 := Try.sizeOf81,
  v24 := Try.zeroValue81,
  t26 := Try.underlying9,
  a26 := Try.isAgg9,
  z26 := Try.sizeOf9,
  v26 := Try.zeroValue9,
  t28 := Try.underlying126,
  a28 := Try.isAgg126,
  z28 := Try.sizeOf126,
  v28 := Try.zeroValue126,
  i26 := by kernel_rfl }
end Go.Proofs.Ythjgmccpbcelgaa
