/- The library's contracts of maps.Clone, maps.Keys, slices.Sorted and slices.Sort, laid at this program. -/
import Derived.Test.YtaflaaiomlijbaaProg
import Derived.Shelf.SlMaps.Clone
import Derived.Shelf.SlIterI.Sorted
import Derived.Shelf.SortM.Plain
import Derived.Shelf.SortM.SortNone
set_option linter.all false
namespace Go.Proofs.Ytaflaaiomlijbaa
open Go Go.Shelf Go.RowKit Go.Maps Go.Sort
def mapsClone_ren : Go.Shelf.Ren := ⟨fun | 5 => 67 | 7 => 99 | n => n, fun | 23 => 143 | 25 => 3 | 3 => 3 | 4 => 4 | 20 => 20 | n => n, fun | n => n⟩
theorem mapsClone : Go.Proofs.SlLaysW.n5 Try.prog mapsClone_ren where
  mixed := by kernel_rfl
  f5 := ⟨Try.f67.name, by decide, Try.func67.trans (congrArg some (by kernel_rfl))⟩
  f7 := Try.func99.trans (congrArg some (by kernel_rfl))
  t4 := Try.underlying4
  a4 := Try.isAgg4
  z4 := Try.sizeOf4
  v4 := Try.zeroValue4
  t20 := Try.underlying20
  a20 := Try.isAgg20
  z20 := Try.sizeOf20
  v20 := Try.zeroValue20
  t23 := Try.underlying143
  a23 := Try.isAgg143
  z23 := Try.sizeOf143
  v23 := Try.zeroValue143
def sortedL_ren : Go.Shelf.Ren := ⟨fun | 6 => 104 | 8 => 113 | 9 => 114 | 11 => 121 | 13 => 123 | 12 => 122 | 23 => 135 | 24 => 136 | 14 => 126 | 15 => 127 | 16 => 128 | 17 => 129 | 18 => 130 | 19 => 131 | 20 => 132 | 21 => 133 | 22 => 134 | 25 => 137 | 26 => 138 | 27 => 139 | 28 => 140 | 29 => 141 | 30 => 142 | 31 => 143 | n => n, fun | 26 => 3 | 28 => 196 | 24 => 78 | 0 => 0 | 3 => 3 | 37 => 56 | 48 => 232 | 50 => 22 | 4 => 4 | 40 => 225 | 39 => 224 | 45 => 189 | 5 => 5 | 9 => 9 | 51 => 234 | 55 => 238 | 57 => 240 | 58 => 241 | 33 => 206 | n => n, fun | n => n⟩
theorem sortedL : Go.Proofs.SlLaysZI.n6 Try.prog sortedL_ren where
  mixed := by kernel_rfl
  f6 := ⟨Try.f104.name, by decide, Try.func104.trans (congrArg some (by kernel_rfl))⟩
  f8 := ⟨Try.f113.name, by decide, Try.func113.trans (congrArg some (by kernel_rfl))⟩
  f11 := ⟨Try.f121.name, by decide, Try.func121.trans (congrArg some (by kernel_rfl))⟩
  t0 := Try.underlying0
  a0 := Try.isAgg0
  z0 := Try.sizeOf0
  v0 := Try.zeroValue0
  t24 := Try.underlying78
  a24 := Try.isAgg78
  z24 := Try.sizeOf78
  v24 := Try.zeroValue78
  t26 := Try.underlying3
  a26 := Try.isAgg3
  z26 := Try.sizeOf3
  v26 := Try.zeroValue3
  t28 := Try.underlying196
  a28 := Try.isAgg196
  z28 := Try.sizeOf196
  v28 := Try.zeroValue196
  i26 := by kernel_rfl
def sortL_ren : Go.Shelf.Ren := ⟨fun | 5 => 114 | 8 => 123 | 7 => 122 | 19 => 135 | 20 => 136 | 10 => 126 | 11 => 127 | 12 => 128 | 13 => 129 | 14 => 130 | 15 => 131 | 16 => 132 | 17 => 133 | 18 => 134 | 30 => 137 | 31 => 138 | 32 => 139 | 33 => 140 | 34 => 141 | 35 => 142 | 40 => 143 | n => n, fun | 23 => 78 | 25 => 3 | 3 => 3 | 32 => 56 | 22 => 78 | 0 => 0 | 44 => 232 | 46 => 22 | 4 => 4 | 36 => 225 | 35 => 224 | 41 => 189 | 5 => 5 | 9 => 9 | 53 => 234 | 57 => 238 | 63 => 240 | 64 => 241 | n => n, fun | n => n⟩
theorem sortL : Go.Proofs.SlLaysM.n5 Try.prog sortL_ren where
  mixed := by kernel_rfl
  f5 := ⟨Try.f114.name, by decide, Try.func114.trans (congrArg some (by kernel_rfl))⟩
  f7 := ⟨Try.f122.name, by decide, Try.func122.trans (congrArg some (by kernel_rfl))⟩
  f8 := Try.func123.trans (congrArg some (by kernel_rfl))
  f10 := ⟨Try.f126.name, by decide, Try.func126.trans (congrArg some (by kernel_rfl))⟩
  f11 := ⟨Try.f127.name, by decide, Try.func127.trans (congrArg some (by kernel_rfl))⟩
  f12 := ⟨Try.f128.name, by decide, Try.func128.trans (congrArg some (by kernel_rfl))⟩
  f13 := ⟨Try.f129.name, by decide, Try.func129.trans (congrArg some (by kernel_rfl))⟩
  f14 := ⟨Try.f130.name, by decide, Try.func130.trans (congrArg some (by kernel_rfl))⟩
  f15 := ⟨Try.f131.name, by decide, Try.func131.trans (congrArg some (by kernel_rfl))⟩
  f16 := ⟨Try.f132.name, by decide, Try.func132.trans (congrArg some (by kernel_rfl))⟩
  f17 := ⟨Try.f133.name, by decide, Try.func133.trans (congrArg some (by kernel_rfl))⟩
  f18 := ⟨Try.f134.name, by decide, Try.func134.trans (congrArg some (by kernel_rfl))⟩
  f19 := Try.func135.trans (congrArg some (by kernel_rfl))
  f20 := Try.func136.trans (congrArg some (by kernel_rfl))
  f30 := ⟨Try.f137.name, by decide, Try.func137.trans (congrArg some (by kernel_rfl))⟩
  f31 := Try.func138.trans (congrArg some (by kernel_rfl))
  f32 := Try.func139.trans (congrArg some (by kernel_rfl))
  f33 := ⟨Try.f140.name, by decide, Try.func140.trans (congrArg some (by kernel_rfl))⟩
  f34 := ⟨Try.f141.name, by decide, Try.func141.trans (congrArg some (by kernel_rfl))⟩
  f35 := ⟨Try.f142.name, by decide, Try.func142.trans (congrArg some (by kernel_rfl))⟩
  f40 := ⟨Try.f143.name, by decide, Try.func143.trans (congrArg some (by kernel_rfl))⟩
  t0 := Try.underlying0
  a0 := Try.isAgg0
  z0 := Try.sizeOf0
  v0 := Try.zeroValue0
  t3 := Try.underlying3
  a3 := Try.isAgg3
  z3 := Try.sizeOf3
  v3 := Try.zeroValue3
  t4 := Try.underlying4
  a4 := Try.isAgg4
  z4 := Try.sizeOf4
  v4 := Try.zeroValue4
  t5 := Try.underlying5
  a5 := Try.isAgg5
  z5 := Try.sizeOf5
  v5 := Try.zeroValue5
  t9 := Try.underlying9
  a9 := Try.isAgg9
  z9 := Try.sizeOf9
  v9 := Try.zeroValue9
  t22 := Try.underlying78
  a22 := Try.isAgg78
  z22 := Try.sizeOf78
  v22 := Try.zeroValue78
  t23 := Try.underlying78
  a23 := Try.isAgg78
  z23 := Try.sizeOf78
  v23 := Try.zeroValue78
  t25 := Try.underlying3
  a25 := Try.isAgg3
  z25 := Try.sizeOf3
  v25 := Try.zeroValue3
  t32 := Try.underlying56
  a32 := Try.isAgg56
  z32 := Try.sizeOf56
  v32 := Try.zeroValue56
  t35 := Try.underlying224
  a35 := Try.isAgg224
  z35 := Try.sizeOf224
  v35 := Try.zeroValue224
  t36 := Try.underlying225
  a36 := Try.isAgg225
  z36 := Try.sizeOf225
  v36 := Try.zeroValue225
  t41 := Try.underlying189
  a41 := Try.isAgg189
  z41 := Try.sizeOf189
  v41 := Try.zeroValue189
  t44 := Try.underlying232
  a44 := Try.isAgg232
  z44 := Try.sizeOf232
  v44 := Try.zeroValue232
  t46 := Try.underlying22
  a46 := Try.isAgg22
  z46 := Try.sizeOf22
  v46 := Try.zeroValue22
  t53 := Try.underlying234
  a53 := Try.isAgg234
  z53 := Try.sizeOf234
  v53 := Try.zeroValue234
  t57 := Try.underlying238
  a57 := Try.isAgg238
  z57 := Try.sizeOf238
  v57 := Try.zeroValue238
  t63 := Try.underlying240
  a63 := Try.isAgg240
  z63 := Try.sizeOf240
  v63 := Try.zeroValue240
  t64 := Try.underlying241
  a64 := Try.isAgg241
  z64 := Try.sizeOf241
  v64 := Try.zeroValue241
theorem sortsIn (m : Nat) : AnyZI.SortsIn Try.prog sortedL_ren Fence.wide m :=
  ⟨fun blk off cap ss W hH hblk hsz => callsIn_wide.2 (AnyM.slices_Sort_int sortL blk off cap ss W hH hblk hsz), fun p cap W => callsIn_wide.2 (AnyM.slices_Sort_int_none sortL p cap W)⟩
end Go.Proofs.Ytaflaaiomlijbaa