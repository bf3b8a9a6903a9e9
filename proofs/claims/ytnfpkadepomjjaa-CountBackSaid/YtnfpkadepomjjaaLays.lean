/- The library's contracts of maps.Clone, maps.Keys, slices.Sorted and slices.Sort, laid at this program. -/
import Derived.Test.YtnfpkadepomjjaaProg
import Derived.Shelf.SlMaps.Clone
import Derived.Shelf.SlIterI.Sorted
import Derived.Shelf.SortM.Plain
import Derived.Shelf.SortM.SortNone
set_option linter.all false
namespace Go.Proofs.Ytnfpkadepomjjaa
open Go Go.Shelf Go.RowKit Go.Maps Go.Sort
def mapsClone_ren : Go.Shelf.Ren := ⟨fun | 5 => 204 | 7 => 228 | n => n, fun | 23 => 293 | 25 => 3 | 3 => 3 | 4 => 4 | 20 => 20 | n => n, fun | n => n⟩
theorem mapsClone : Go.Proofs.SlLaysW.n5 Try.prog mapsClone_ren where
  mixed := by kernel_rfl
  f5 := ⟨Try.f204.name, by decide, Try.func204.trans (congrArg some (by kernel_rfl))⟩
  f7 := Try.func228.trans (congrArg some (by kernel_rfl))
  t4 := Try.underlying4
  a4 := Try.isAgg4
  z4 := Try.sizeOf4
  v4 := Try.zeroValue4
  t20 := Try.underlying20
  a20 := Try.isAgg20
  z20 := Try.sizeOf20
  v20 := Try.zeroValue20
  t23 := Try.underlying293
  a23 := Try.isAgg293
  z23 := Try.sizeOf293
  v23 := Try.zeroValue293
def keysL_ren : Go.Shelf.Ren := ⟨fun | 7 => 194 | 10 => 221 | n => n, fun | 23 => 171 | 26 => 3 | 3 => 256 | 28 => 304 | 0 => 0 | 27 => 303 | 33 => 247 | 4 => 4 | n => n, fun | n => n⟩
theorem keysL : Go.Proofs.SlLaysZI.n7 Try.prog keysL_ren where
  mixed := by kernel_rfl
  f7 := ⟨Try.f194.name, by decide, Try.func194.trans (congrArg some (by kernel_rfl))⟩
  f10 := ⟨Try.f221.name, by decide, Try.func221.trans (congrArg some (by kernel_rfl))⟩
  t0 := Try.underlying0
  a0 := Try.isAgg0
  z0 := Try.sizeOf0
  v0 := Try.zeroValue0
  t4 := Try.underlying4
  a4 := Try.isAgg4
  z4 := Try.sizeOf4
  v4 := Try.zeroValue4
  t23 := Try.underlying171
  a23 := Try.isAgg171
  z23 := Try.sizeOf171
  v23 := Try.zeroValue171
  t26 := Try.underlying3
  a26 := Try.isAgg3
  z26 := Try.sizeOf3
  v26 := Try.zeroValue3
  t27 := Try.underlying303
  a27 := Try.isAgg303
  z27 := Try.sizeOf303
  v27 := Try.zeroValue303
  t28 := Try.underlying304
  a28 := Try.isAgg304
  z28 := Try.sizeOf304
  v28 := Try.zeroValue304
  t33 := Try.underlying247
  a33 := Try.isAgg247
  z33 := Try.sizeOf247
  v33 := Try.zeroValue247
def sortedL_ren : Go.Shelf.Ren := ⟨fun | 6 => 193 | 8 => 219 | 9 => 220 | 11 => 238 | 13 => 240 | 12 => 239 | 23 => 259 | 24 => 260 | 14 => 250 | 15 => 251 | 16 => 252 | 17 => 253 | 18 => 254 | 19 => 255 | 20 => 256 | 21 => 257 | 22 => 258 | 25 => 264 | 26 => 265 | 27 => 266 | 28 => 267 | 29 => 268 | 30 => 269 | 31 => 270 | n => n, fun | 26 => 3 | 28 => 304 | 24 => 89 | 0 => 0 | 3 => 3 | 37 => 79 | 48 => 363 | 50 => 25 | 4 => 4 | 40 => 357 | 39 => 356 | 45 => 211 | 5 => 5 | 9 => 9 | 51 => 365 | 55 => 369 | 57 => 371 | 58 => 161 | 33 => 247 | n => n, fun | n => n⟩
theorem sortedL : Go.Proofs.SlLaysZI.n6 Try.prog sortedL_ren where
  mixed := by kernel_rfl
  f6 := ⟨Try.f193.name, by decide, Try.func193.trans (congrArg some (by kernel_rfl))⟩
  f8 := ⟨Try.f219.name, by decide, Try.func219.trans (congrArg some (by kernel_rfl))⟩
  f11 := ⟨Try.f238.name, by decide, Try.func238.trans (congrArg some (by kernel_rfl))⟩
  t0 := Try.underlying0
  a0 := Try.isAgg0
  z0 := Try.sizeOf0
  v0 := Try.zeroValue0
  t24 := Try.underlying89
  a24 := Try.isAgg89
  z24 := Try.sizeOf89
  v24 := Try.zeroValue89
  t26 := Try.underlying3
  a26 := Try.isAgg3
  z26 := Try.sizeOf3
  v26 := Try.zeroValue3
  t28 := Try.underlying304
  a28 := Try.isAgg304
  z28 := Try.sizeOf304
  v28 := Try.zeroValue304
  i26 := by kernel_rfl
def sortL_ren : Go.Shelf.Ren := ⟨fun | 5 => 220 | 8 => 240 | 7 => 239 | 19 => 259 | 20 => 260 | 10 => 250 | 11 => 251 | 12 => 252 | 13 => 253 | 14 => 254 | 15 => 255 | 16 => 256 | 17 => 257 | 18 => 258 | 30 => 264 | 31 => 265 | 32 => 266 | 33 => 267 | 34 => 268 | 35 => 269 | 40 => 270 | n => n, fun | 23 => 89 | 25 => 3 | 3 => 3 | 32 => 79 | 22 => 89 | 0 => 0 | 44 => 363 | 46 => 25 | 4 => 4 | 36 => 357 | 35 => 356 | 41 => 211 | 5 => 5 | 9 => 9 | 53 => 365 | 57 => 369 | 63 => 371 | 64 => 161 | n => n, fun | n => n⟩
theorem sortL : Go.Proofs.SlLaysM.n5 Try.prog sortL_ren where
  mixed := by kernel_rfl
  f5 := ⟨Try.f220.name, by decide, Try.func220.trans (congrArg some (by kernel_rfl))⟩
  f7 := ⟨Try.f239.name, by decide, Try.func239.trans (congrArg some (by kernel_rfl))⟩
  f8 := Try.func240.trans (congrArg some (by kernel_rfl))
  f10 := ⟨Try.f250.name, by decide, Try.func250.trans (congrArg some (by kernel_rfl))⟩
  f11 := ⟨Try.f251.name, by decide, Try.func251.trans (congrArg some (by kernel_rfl))⟩
  f12 := ⟨Try.f252.name, by decide, Try.func252.trans (congrArg some (by kernel_rfl))⟩
  f13 := ⟨Try.f253.name, by decide, Try.func253.trans (congrArg some (by kernel_rfl))⟩
  f14 := ⟨Try.f254.name, by decide, Try.func254.trans (congrArg some (by kernel_rfl))⟩
  f15 := ⟨Try.f255.name, by decide, Try.func255.trans (congrArg some (by kernel_rfl))⟩
  f16 := ⟨Try.f256.name, by decide, Try.func256.trans (congrArg some (by kernel_rfl))⟩
  f17 := ⟨Try.f257.name, by decide, Try.func257.trans (congrArg some (by kernel_rfl))⟩
  f18 := ⟨Try.f258.name, by decide, Try.func258.trans (congrArg some (by kernel_rfl))⟩
  f19 := Try.func259.trans (congrArg some (by kernel_rfl))
  f20 := Try.func260.trans (congrArg some (by kernel_rfl))
  f30 := ⟨Try.f264.name, by decide, Try.func264.trans (congrArg some (by kernel_rfl))⟩
  f31 := Try.func265.trans (congrArg some (by kernel_rfl))
  f32 := Try.func266.trans (congrArg some (by kernel_rfl))
  f33 := ⟨Try.f267.name, by decide, Try.func267.trans (congrArg some (by kernel_rfl))⟩
  f34 := ⟨Try.f268.name, by decide, Try.func268.trans (congrArg some (by kernel_rfl))⟩
  f35 := ⟨Try.f269.name, by decide, Try.func269.trans (congrArg some (by kernel_rfl))⟩
  f40 := ⟨Try.f270.name, by decide, Try.func270.trans (congrArg some (by kernel_rfl))⟩
  t0 := Try.underlying0
  a0 := Try.isAgg0
  z0 := Try.sizeOf0
  v0 := Try.zeroValue0
  t3 := Try.underlying3
  a3 := Try.isAgg3
  z3 := Try.sizeOf3
  v3 := Try.zeroValue3
  t4 := Try.underlying4
  a4 := Try.isAgg4
  z4 := Try.sizeOf4
  v4 := Try.zeroValue4
  t5 := Try.underlying5
  a5 := Try.isAgg5
  z5 := Try.sizeOf5
  v5 := Try.zeroValue5
  t9 := Try.underlying9
  a9 := Try.isAgg9
  z9 := Try.sizeOf9
  v9 := Try.zeroValue9
  t22 := Try.underlying89
  a22 := Try.isAgg89
  z22 := Try.sizeOf89
  v22 := Try.zeroValue89
  t23 := Try.underlying89
  a23 := Try.isAgg89
  z23 := Try.sizeOf89
  v23 := Try.zeroValue89
  t25 := Try.underlying3
  a25 := Try.isAgg3
  z25 := Try.sizeOf3
  v25 := Try.zeroValue3
  t32 := Try.underlying79
  a32 := Try.isAgg79
  z32 := Try.sizeOf79
  v32 := Try.zeroValue79
  t35 := Try.underlying356
  a35 := Try.isAgg356
  z35 := Try.sizeOf356
  v35 := Try.zeroValue356
  t36 := Try.underlying357
  a36 := Try.isAgg357
  z36 := Try.sizeOf357
  v36 := Try.zeroValue357
  t41 := Try.underlying211
  a41 := Try.isAgg211
  z41 := Try.sizeOf211
  v41 := Try.zeroValue211
  t44 := Try.underlying363
  a44 := Try.isAgg363
  z44 := Try.sizeOf363
  v44 := Try.zeroValue363
  t46 := Try.underlying25
  a46 := Try.isAgg25
  z46 := Try.sizeOf25
  v46 := Try.zeroValue25
  t53 := Try.underlying365
  a53 := Try.isAgg365
  z53 := Try.sizeOf365
  v53 := Try.zeroValue365
  t57 := Try.underlying369
  a57 := Try.isAgg369
  z57 := Try.sizeOf369
  v57 := Try.zeroValue369
  t63 := Try.underlying371
  a63 := Try.isAgg371
  z63 := Try.sizeOf371
  v63 := Try.zeroValue371
  t64 := Try.underlying161
  a64 := Try.isAgg161
  z64 := Try.sizeOf161
  v64 := Try.zeroValue161
theorem sortsIn (m : Nat) : AnyZI.SortsIn Try.prog sortedL_ren Fence.wide m :=
  ⟨fun blk off cap ss W hH hblk hsz => callsIn_wide.2 (AnyM.slices_Sort_int sortL blk off cap ss W hH hblk hsz), fun p cap W => callsIn_wide.2 (AnyM.slices_Sort_int_none sortL p cap W)⟩
/-- maps.Keys: a function value over one new block, which holds the map. -/
theorem keys_of (mb : Option Nat) (n : Nat) (W : World) : CallsIn Fence.wide n Try.prog 194 #[.map mb] W fun e w' =>
    e = .returned (.func (.func 221) #[] #[.pointer (some ⟨W.heap.size, 0, none⟩)]) ∧ w' = W.alloc (.cells #[.map mb] 171) :=
  AnyZI.keys_in keysL Fence.wide n trivial rfl mb W
theorem sorted_of {H : Type} (b nn : Nat) (D0 : DataW H) (R : Value → Option (DataW H × List MemPlace)) (w : World) (hown : w.ownsMap Try.prog 3 R b nn D0) (hmax : Maps.size D0 ≤ maxLen) (hbytes : Maps.size D0 * 8 ≤ 140737488355328) (n : Nat) (hn : 5 ≤ n) :
    CallsIn Fence.wide n Try.prog 193 #[.func (.func 221) #[] #[.pointer (some ⟨w.heap.size, 0, none⟩)]] (w.alloc (.cells #[.map (some b)] 171)) fun e w' =>
      ∃ (v : Value) (ss : List Int), e = .returned v ∧ ss.Perm (intKeys D0) ∧
      w'.ownsRow (w.alloc (.cells #[.map (some b)] 171)).heap.size 3 1 v ss.length ((ss.mergeSort (fun x y => decide (x ≤ y))).map encZ) ∧ Below (w.alloc (.cells #[.map (some b)] 171)).heap.size (w.alloc (.cells #[.map (some b)] 171)) w' := by
  have hbl := hown.lt
  have hseq : SeqGives Fence.wide (n - 1 - 1 - 1) Try.prog 221 #[.pointer (some ⟨w.heap.size, 0, none⟩)] encZ (fun ss => ss.Perm (intKeys D0)) (Maps.size D0) (w.alloc (.cells #[.map (some b)] 171)) :=
    AnyZI.keys_gives (ρ := keysL_ren) { keysL with } Fence.wide _ trivial rfl (by omega) w.heap.size b nn D0 _ (by simp) (by simp) (by
      obtain ⟨es, clock, hb, Ft, hs, hD⟩ := hown
      exact ⟨es, clock, (Below.heap_alloc _ _ b hbl).trans hb, Ft, hs, hD⟩)
  refine CallsIn.mono (AnyZI.sorted_in sortedL Fence.wide n trivial trivial trivial trivial rfl (by omega) (sortsIn _) (enters_of Try.func220 (by kernel_rfl) rfl) 221 #[.pointer (some ⟨w.heap.size, 0, none⟩)] trivial (enters_of Try.func221 (by kernel_rfl) rfl) _ _ hmax hbytes _ hseq) ?_
  rintro e w' ⟨v, ss, h1, h2, h3, _, h5⟩
  exact ⟨v, ss, h1, h2, h3, h5⟩
end Go.Proofs.Ytnfpkadepomjjaa
