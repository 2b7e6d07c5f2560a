/-
  Where slices.Sorted and maps.Keys at ints stand at this program.
-/
import Derived.Shelf.SlIterI.Nil
import Derived.Shelf.SortM.Plain
import Derived.Shelf.SortM.SortNone
import Derived.Test.YthjgmccpbcelgaaProg
/-! Where a function of Go's library stands at this program: the shelf's structure, paid. -/
set_option linter.unusedVariables false
set_option linter.unusedSimpArgs false
namespace Go.Proofs.Ythjgmccpbcelgaa
section
open Go Go.Proofs Go.Shelf
def keysInt_ren : Go.Shelf.Ren := ⟨fun | 7 => 84 | 10 => 118 | n => n, fun | 23 => 90 | 26 => 3 | 3 => 4 | 28 => 93 | 0 => 0 | 27 => 92 | 33 => 105 | 4 => 4 | n => n, fun | n => n⟩
set_option maxRecDepth 100000 in
theorem keysInt : Go.Proofs.SlLaysZI.n7 Try.prog keysInt_ren := {
  mixed := by kernel_rfl,
  f7 := ⟨Try.f84.name, by decide, Try.func84.trans (congrArg some (by kernel_rfl))⟩,
  f10 := ⟨Try.f118.name, by decide, Try.func118.trans (congrArg some (by kernel_rfl))⟩,
  t0 := Try.underlying0,
  a0 := Try.isAgg0,
  z0 := Try.sizeOf0,
  v0 := Try.zeroValue0,
  t4 := Try.underlying4,
  a4 := Try.isAgg4,
  z4 := Try.sizeOf4,
  v4 := Try.zeroValue4,
  t23 := Try.underlying90,
  a23 := Try.isAgg90,
  z23 := Try.sizeOf90,
  v23 := Try.zeroValue90,
  t26 := Try.underlying3,
  a26 := Try.isAgg3,
  z26 := Try.sizeOf3,
  v26 := Try.zeroValue3,
  t27 := Try.underlying92,
  a27 := Try.isAgg92,
  z27 := Try.sizeOf92,
  v27 := Try.zeroValue92,
  t28 := Try.underlying93,
  a28 := Try.isAgg93,
  z28 := Try.sizeOf93,
  v28 := Try.zeroValue93,
  t33 := Try.underlying105,
  a33 := Try.isAgg105,
  z33 := Try.sizeOf105,
  v33 := Try.zeroValue105 }
end
end Go.Proofs.Ythjgmccpbcelgaa

/-! Where a function of Go's library stands at this program: the shelf's structure, paid. -/
namespace Go.Proofs.Ythjgmccpbcelgaa
section
open Go Go.Proofs Go.Shelf
def sortedInt_ren : Go.Shelf.Ren := ⟨fun | 6 => 83 | 8 => 116 | 9 => 117 | 11 => 136 | 13 => 127 | 12 => 137 | 23 => 147 | 24 => 148 | 14 => 151 | 15 => 152 | 16 => 153 | 17 => 154 | 18 => 155 | 19 => 156 | 20 => 157 | 21 => 158 | 22 => 159 | 25 => 174 | 26 => 161 | 27 => 162 | 28 => 175 | 29 => 176 | 30 => 177 | 31 => 183 | n => n, fun | 26 => 3 | 28 => 93 | 24 => 53 | 0 => 0 | 3 => 3 | 37 => 139 | 48 => 156 | 50 => 158 | 4 => 4 | 40 => 150 | 39 => 149 | 45 => 108 | 5 => 5 | 9 => 9 | 51 => 167 | 55 => 171 | 57 => 180 | 58 => 25 | 33 => 105 | n => n, fun | n => n⟩
set_option maxRecDepth 100000 in
theorem sortedInt : Go.Proofs.SlLaysZI.n6 Try.prog sortedInt_ren := {
  mixed := by kernel_rfl,
  f6 := ⟨Try.f83.name, by decide, Try.func83.trans (congrArg some (by kernel_rfl))⟩,
  f8 := ⟨Try.f116.name, by decide, Try.func116.trans (congrArg some (by kernel_rfl))⟩,
  f11 := ⟨Try.f136.name, by decide, Try.func136.trans (congrArg some (by kernel_rfl))⟩,
  t0 := Try.underlying0,
  a0 := Try.isAgg0,
  z0 := Try.sizeOf0,
  v0 := Try.zeroValue0,
  t24 := Try.underlying53,
  a24 := Try.isAgg53,
  z24 := Try.sizeOf53,
  v24 := Try.zeroValue53,
  t26 := Try.underlying3,
  a26 := Try.isAgg3,
  z26 := Try.sizeOf3,
  v26 := Try.zeroValue3,
  t28 := Try.underlying93,
  a28 := Try.isAgg93,
  z28 := Try.sizeOf93,
  v28 := Try.zeroValue93,
  i26 := by kernel_rfl }
end
end Go.Proofs.Ythjgmccpbcelgaa

/-! Where a function of Go's library stands at this program: the shelf's structure, paid. -/
namespace Go.Proofs.Ythjgmccpbcelgaa
section
open Go Go.Proofs Go.Shelf
def sortInt_ren : Go.Shelf.Ren := ⟨fun | 5 => 117 | 8 => 127 | 7 => 137 | 19 => 147 | 20 => 148 | 10 => 151 | 11 => 152 | 12 => 153 | 13 => 154 | 14 => 155 | 15 => 156 | 16 => 157 | 17 => 158 | 18 => 159 | 30 => 174 | 31 => 161 | 32 => 162 | 33 => 175 | 34 => 176 | 35 => 177 | 40 => 183 | n => n, fun | 23 => 53 | 25 => 3 | 3 => 3 | 32 => 139 | 22 => 53 | 0 => 0 | 44 => 156 | 46 => 158 | 4 => 4 | 36 => 150 | 35 => 149 | 41 => 108 | 5 => 5 | 9 => 9 | 53 => 167 | 57 => 171 | 63 => 180 | 64 => 25 | n => n, fun | n => n⟩
set_option maxRecDepth 100000 in
theorem sortInt : Go.Proofs.SlLaysM.n5 Try.prog sortInt_ren := {
  mixed := by kernel_rfl,
  f5 := ⟨Try.f117.name, by decide, Try.func117.trans (congrArg some (by kernel_rfl))⟩,
  f7 := ⟨Try.f137.name, by decide, Try.func137.trans (congrArg some (by kernel_rfl))⟩,
  f8 := Try.func127.trans (congrArg some (by kernel_rfl)),
  f10 := ⟨Try.f151.name, by decide, Try.func151.trans (congrArg some (by kernel_rfl))⟩,
  f11 := ⟨Try.f152.name, by decide, Try.func152.trans (congrArg some (by kernel_rfl))⟩,
  f12 := ⟨Try.f153.name, by decide, Try.func153.trans (congrArg some (by kernel_rfl))⟩,
  f13 := ⟨Try.f154.name, by decide, Try.func154.trans (congrArg some (by kernel_rfl))⟩,
  f14 := ⟨Try.f155.name, by decide, Try.func155.trans (congrArg some (by kernel_rfl))⟩,
  f15 := ⟨Try.f156.name, by decide, Try.func156.trans (congrArg some (by kernel_rfl))⟩,
  f16 := ⟨Try.f157.name, by decide, Try.func157.trans (congrArg some (by kernel_rfl))⟩,
  f17 := ⟨Try.f158.name, by decide, Try.func158.trans (congrArg some (by kernel_rfl))⟩,
  f18 := ⟨Try.f159.name, by decide, Try.func159.trans (congrArg some (by kernel_rfl))⟩,
  f19 := Try.func147.trans (congrArg some (by kernel_rfl)),
  f20 := Try.func148.trans (congrArg some (by kernel_rfl)),
  f30 := ⟨Try.f174.name, by decide, Try.func174.trans (congrArg some (by kernel_rfl))⟩,
  f31 := Try.func161.trans (congrArg some (by kernel_rfl)),
  f32 := Try.func162.trans (congrArg some (by kernel_rfl)),
  f33 := ⟨Try.f175.name, by decide, Try.func175.trans (congrArg some (by kernel_rfl))⟩,
  f34 := ⟨Try.f176.name, by decide, Try.func176.trans (congrArg some (by kernel_rfl))⟩,
  f35 := ⟨Try.f177.name, by decide, Try.func177.trans (congrArg some (by kernel_rfl))⟩,
  f40 := ⟨Try.f183.name, by decide, Try.func183.trans (congrArg some (by kernel_rfl))⟩,
  t0 := Try.underlying0,
  a0 := Try.isAgg0,
  z0 := Try.sizeOf0,
  v0 := Try.zeroValue0,
  t3 := Try.underlying3,
  a3 := Try.isAgg3,
  z3 := Try.sizeOf3,
  v3 := Try.zeroValue3,
  t4 := Try.underlying4,
  a4 := Try.isAgg4,
  z4 := Try.sizeOf4,
  v4 := Try.zeroValue4,
  t5 := Try.underlying5,
  a5 := Try.isAgg5,
  z5 := Try.sizeOf5,
  v5 := Try.zeroValue5,
  t9 := Try.underlying9,
  a9 := Try.isAgg9,
  z9 := Try.sizeOf9,
  v9 := Try.zeroValue9,
  t22 := Try.underlying53,
  a22 := Try.isAgg53,
  z22 := Try.sizeOf53,
  v22 := Try.zeroValue53,
  t23 := Try.underlying53,
  a23 := Try.isAgg53,
  z23 := Try.sizeOf53,
  v23 := Try.zeroValue53,
  t25 := Try.underlying3,
  a25 := Try.isAgg3,
  z25 := Try.sizeOf3,
  v25 := Try.zeroValue3,
  t32 := Try.underlying139,
  a32 := Try.isAgg139,
  z32 := Try.sizeOf139,
  v32 := Try.zeroValue139,
  t35 := Try.underlying149,
  a35 := Try.isAgg149,
  z35 := Try.sizeOf149,
  v35 := Try.zeroValue149,
  t36 := Try.underlying150,
  a36 := Try.isAgg150,
  z36 := Try.sizeOf150,
  v36 := Try.zeroValue150,
  t41 := Try.underlying108,
  a41 := Try.isAgg108,
  z41 := Try.sizeOf108,
  v41 := Try.zeroValue108,
  t44 := Try.underlying156,
  a44 := Try.isAgg156,
  z44 := Try.sizeOf156,
  v44 := Try.zeroValue156,
  t46 := Try.underlying158,
  a46 := Try.isAgg158,
  z46 := Try.sizeOf158,
  v46 := Try.zeroValue158,
  t53 := Try.underlying167,
  a53 := Try.isAgg167,
  z53 := Try.sizeOf167,
  v53 := Try.zeroValue167,
  t57 := Try.underlying171,
  a57 := Try.isAgg171,
  z57 := Try.sizeOf171,
  v57 := Try.zeroValue171,
  t63 := Try.underlying180,
  a63 := Try.isAgg180,
  z63 := Try.sizeOf180,
  v63 := Try.zeroValue180,
  t64 := Try.underlying25,
  a64 := Try.isAgg25,
  z64 := Try.sizeOf25,
  v64 := Try.zeroValue25 }
end
end Go.Proofs.Ythjgmccpbcelgaa
