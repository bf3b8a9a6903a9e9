/- The library's contracts of maps.Clone, maps.Keys, slices.Sorted and slices.Sort, laid at this program. -/
import Derived.Test.YtnhmeepifockgaaProg
import Derived.Shelf.SlMaps.Clone
import Derived.Shelf.SlIterI.Sorted
import Derived.Shelf.SortM.Plain
import Derived.Shelf.SortM.SortNone
set_option linter.all false
namespace Go.Proofs.Ytnhmeepifockgaa
open Go Go.Shelf Go.RowKit Go.Maps Go.Sort
def mapsClone_ren : Go.Shelf.Ren := ⟨fun | 5 => 147 | 7 => 211 | n => n, fun | 23 => 250 | 25 => 3 | 3 => 3 | 4 => 4 | 20 => 20 | n => n, fun | n => n⟩
theorem mapsClone : Go.Proofs.SlLaysW.n5 Try.prog mapsClone_ren where
  mixed := by kernel_rfl
  f5 := ⟨Try.f147.name, by decide, Try.func147.trans (congrArg some (by kernel_rfl))⟩
  f7 := Try.func211.trans (congrArg some (by kernel_rfl))
  t4 := Try.underlying4
  a4 := Try.isAgg4
  z4 := Try.sizeOf4
  v4 := Try.zeroValue4
  t20 := Try.underlying20
  a20 := Try.isAgg20
  z20 := Try.sizeOf20
  v20 := Try.zeroValue20
  t23 := Try.underlying250
  a23 := Try.isAgg250
  z23 := Try.sizeOf250
  v23 := Try.zeroValue250
def keysL_ren : Go.Shelf.Ren := ⟨fun | 7 => 225 | 10 => 248 | n => n, fun | 23 => 196 | 26 => 3 | 3 => 244 | 28 => 330 | 0 => 0 | 27 => 329 | 33 => 350 | 4 => 4 | n => n, fun | n => n⟩
theorem keysL : Go.Proofs.SlLaysZI.n7 Try.prog keysL_ren where
  mixed := by kernel_rfl
  f7 := ⟨Try.f225.name, by decide, Try.func225.trans (congrArg some (by kernel_rfl))⟩
  f10 := ⟨Try.f248.name, by decide, Try.func248.trans (congrArg some (by kernel_rfl))⟩
  t0 := Try.underlying0
  a0 := Try.isAgg0
  z0 := Try.sizeOf0
  v0 := Try.zeroValue0
  t4 := Try.underlying4
  a4 := Try.isAgg4
  z4 := Try.sizeOf4
  v4 := Try.zeroValue4
  t23 := Try.underlying196
  a23 := Try.isAgg196
  z23 := Try.sizeOf196
  v23 := Try.zeroValue196
  t26 := Try.underlying3
  a26 := Try.isAgg3
  z26 := Try.sizeOf3
  v26 := Try.zeroValue3
  t27 := Try.underlying329
  a27 := Try.isAgg329
  z27 := Try.sizeOf329
  v27 := Try.zeroValue329
  t28 := Try.underlying330
  a28 := Try.isAgg330
  z28 := Try.sizeOf330
  v28 := Try.zeroValue330
  t33 := Try.underlying350
  a33 := Try.isAgg350
  z33 := Try.sizeOf350
  v33 := Try.zeroValue350
def sortedL_ren : Go.Shelf.Ren := ⟨fun | 6 => 216 | 8 => 239 | 9 => 240 | 11 => 257 | 13 => 259 | 12 => 258 | 23 => 277 | 24 => 278 | 14 => 268 | 15 => 269 | 16 => 270 | 17 => 271 | 18 => 272 | 19 => 273 | 20 => 274 | 21 => 275 | 22 => 276 | 25 => 279 | 26 => 280 | 27 => 281 | 28 => 282 | 29 => 283 | 30 => 284 | 31 => 285 | n => n, fun | 26 => 3 | 28 => 330 | 24 => 89 | 0 => 0 | 3 => 3 | 37 => 79 | 48 => 377 | 50 => 25 | 4 => 4 | 40 => 371 | 39 => 370 | 45 => 261 | 5 => 5 | 9 => 9 | 51 => 378 | 55 => 382 | 57 => 384 | 58 => 182 | 33 => 350 | n => n, fun | n => n⟩
theorem sortedL : Go.Proofs.SlLaysZI.n6 Try.prog sortedL_ren where
  mixed := by kernel_rfl
  f6 := ⟨Try.f216.name, by decide, Try.func216.trans (congrArg some (by kernel_rfl))⟩
  f8 := ⟨Try.f239.name, by decide, Try.func239.trans (congrArg some (by kernel_rfl))⟩
  f11 := ⟨Try.f257.name, by decide, Try.func257.trans (congrArg some (by kernel_rfl))⟩
  t0 := Try.underlying0
  a0 := Try.isAgg0
  z0 := Try.sizeOf0
  v0 := Try.zeroValue0
  t24 := Try.underlying89
  a24 := Try.isAgg89
  z24 := Try.sizeOf89
  v24 := Try.zeroValue89
  t26 := Try.underlying3
  a26 := Try.isAgg3
  z26 := Try.sizeOf3
  v26 := Try.zeroValue3
  t28 := Try.underlying330
  a28 := Try.isAgg330
  z28 := Try.sizeOf330
  v28 := Try.zeroValue330
  i26 := by kernel_rfl
def sortL_ren : Go.Shelf.Ren := ⟨fun | 5 => 240 | 8 => 259 | 7 => 258 | 19 => 277 | 20 => 278 | 10 => 268 | 11 => 269 | 12 => 270 | 13 => 271 | 14 => 272 | 15 => 273 | 16 => 274 | 17 => 275 | 18 => 276 | 30 => 279 | 31 => 280 | 32 => 281 | 33 => 282 | 34 => 283 | 35 => 284 | 40 => 285 | n => n, fun | 23 => 89 | 25 => 3 | 3 => 3 | 32 => 79 | 22 => 89 | 0 => 0 | 44 => 377 | 46 => 25 | 4 => 4 | 36 => 371 | 35 => 370 | 41 => 261 | 5 => 5 | 9 => 9 | 53 => 378 | 57 => 382 | 63 => 384 | 64 => 182 | n => n, fun | n => n⟩
theorem sortL : Go.Proofs.SlLaysM.n5 Try.prog sortL_ren where
  mixed := by kernel_rfl
  f5 := ⟨Try.f240.name, by decide, Try.func240.trans (congrArg some (by kernel_rfl))⟩
  f7 := ⟨Try.f258.name, by decide, Try.func258.trans (congrArg some (by kernel_rfl))⟩
  f8 := Try.func259.trans (congrArg some (by kernel_rfl))
  f10 := ⟨Try.f268.name, by decide, Try.func268.trans (congrArg some (by kernel_rfl))⟩
  f11 := ⟨Try.f269.name, by decide, Try.func269.trans (congrArg some (by kernel_rfl))⟩
  f12 := ⟨Try.f270.name, by decide, Try.func270.trans (congrArg some (by kernel_rfl))⟩
  f13 := ⟨Try.f271.name, by decide, Try.func271.trans (congrArg some (by kernel_rfl))⟩
  f14 := ⟨Try.f272.name, by decide, Try.func272.trans (congrArg some (by kernel_rfl))⟩
  f15 := ⟨Try.f273.name, by decide, Try.func273.trans (congrArg some (by kernel_rfl))⟩
  f16 := ⟨Try.f274.name, by decide, Try.func274.trans (congrArg some (by kernel_rfl))⟩
  f17 := ⟨Try.f275.name, by decide, Try.func275.trans (congrArg some (by kernel_rfl))⟩
  f18 := ⟨Try.f276.name, by decide, Try.func276.trans (congrArg some (by kernel_rfl))⟩
  f19 := Try.func277.trans (congrArg some (by kernel_rfl))
  f20 := Try.func278.trans (congrArg some (by kernel_rfl))
  f30 := ⟨Try.f279.name, by decide, Try.func279.trans (congrArg some (by kernel_rfl))⟩
  f31 := Try.func280.trans (congrArg some (by kernel_rfl))
  f32 := Try.func281.trans (congrArg some (by kernel_rfl))
  f33 := ⟨Try.f282.name, by decide, Try.func282.trans (congrArg some (by kernel_rfl))⟩
  f34 := ⟨Try.f283.name, by decide, Try.func283.trans (congrArg some (by kernel_rfl))⟩
  f35 := ⟨Try.f284.name, by decide, Try.func284.trans (congrArg some (by kernel_rfl))⟩
  f40 := ⟨Try.f285.name, by decide, Try.func285.trans (congrArg some (by kernel_rfl))⟩
  t0 := Try.underlying0
  a0 := Try.isAgg0
  z0 := Try.sizeOf0
  v0 := Try.zeroValue0
  t3 := Try.underlying3
  a3 := Try.isAgg3
  z3 := Try.sizeOf3
  v3 := Try.zeroValue3
  t4 := Try.underlying4
  a4 := Try.isAgg4
  z4 := Try.sizeOf4
  v4 := Try.zeroValue4
  t5 := Try.underlying5
  a5 := Try.isAgg5
  z5 := Try.sizeOf5
  v5 := Try.zeroValue5
  t9 := Try.underlying9
  a9 := Try.isAgg9
  z9 := Try.sizeOf9
  v9 := Try.zeroValue9
  t22 := Try.underlying89
  a22 := Try.isAgg89
  z22 := Try.sizeOf89
  v22 := Try.zeroValue89
  t23 := Try.underlying89
  a23 := Try.isAgg89
  z23 := Try.sizeOf89
  v23 := Try.zeroValue89
  t25 := Try.underlying3
  a25 := Try.isAgg3
  z25 := Try.sizeOf3
  v25 := Try.zeroValue3
  t32 := Try.underlying79
  a32 := Try.isAgg79
  z32 := Try.sizeOf79
  v32 := Try.zeroValue79
  t35 := Try.underlying370
  a35 := Try.isAgg370
  z35 := Try.sizeOf370
  v35 := Try.zeroValue370
  t36 := Try.underlying371
  a36 := Try.isAgg371
  z36 := Try.sizeOf371
  v36 := Try.zeroValue371
  t41 := Try.underlying261
  a41 := Try.isAgg261
  z41 := Try.sizeOf261
  v41 := Try.zeroValue261
  t44 := Try.underlying377
  a44 := Try.isAgg377
  z44 := Try.sizeOf377
  v44 := Try.zeroValue377
  t46 := Try.underlying25
  a46 := Try.isAgg25
  z46 := Try.sizeOf25
  v46 := Try.zeroValue25
  t53 := Try.underlying378
  a53 := Try.isAgg378
  z53 := Try.sizeOf378
  v53 := Try.zeroValue378
  t57 := Try.underlying382
  a57 := Try.isAgg382
  z57 := Try.sizeOf382
  v57 := Try.zeroValue382
  t63 := Try.underlying384
  a63 := Try.isAgg384
  z63 := Try.sizeOf384
  v63 := Try.zeroValue384
  t64 := Try.underlying182
  a64 := Try.isAgg182
  z64 := Try.sizeOf182
  v64 := Try.zeroValue182
theorem sortsIn (m : Nat) : AnyZI.SortsIn Try.prog sortedL_ren Fence.wide m :=
  ⟨fun blk off cap ss W hH hblk hsz => callsIn_wide.2 (AnyM.slices_Sort_int sortL blk off cap ss W hH hblk hsz), fun p cap W => callsIn_wide.2 (AnyM.slices_Sort_int_none sortL p cap W)⟩
/-- maps.Keys: a function value over one new block, which holds the map. -/
theorem keys_of (mb : Option Nat) (n : Nat) (W : World) : CallsIn Fence.wide n Try.prog 225 #[.map mb] W fun e w' =>
    e = .returned (.func (.func 248) #[] #[.pointer (some ⟨W.heap.size, 0, none⟩)]) ∧ w' = W.alloc (.cells #[.map mb] 196) :=
  AnyZI.keys_in keysL Fence.wide n trivial rfl mb W
theorem sorted_of {H : Type} (b nn : Nat) (D0 : DataW H) (R : Value → Option (DataW H × List MemPlace)) (w : World) (hown : w.ownsMap Try.prog 3 R b nn D0) (hmax : Maps.size D0 ≤ maxLen) (hbytes : Maps.size D0 * 8 ≤ 140737488355328) (n : Nat) (hn : 5 ≤ n) :
    CallsIn Fence.wide n Try.prog 216 #[.func (.func 248) #[] #[.pointer (some ⟨w.heap.size, 0, none⟩)]] (w.alloc (.cells #[.map (some b)] 196)) fun e w' =>
      ∃ (v : Value) (ss : List Int), e = .returned v ∧ ss.Perm (intKeys D0) ∧
      w'.ownsRow (w.alloc (.cells #[.map (some b)] 196)).heap.size 3 1 v ss.length ((ss.mergeSort (fun x y => decide (x ≤ y))).map encZ) ∧ Below (w.alloc (.cells #[.map (some b)] 196)).heap.size (w.alloc (.cells #[.map (some b)] 196)) w' := by
  have hbl := hown.lt
  have hseq : SeqGives Fence.wide (n - 1 - 1 - 1) Try.prog 248 #[.pointer (some ⟨w.heap.size, 0, none⟩)] encZ (fun ss => ss.Perm (intKeys D0)) (Maps.size D0) (w.alloc (.cells #[.map (some b)] 196)) :=
    AnyZI.keys_gives (ρ := keysL_ren) { keysL with } Fence.wide _ trivial rfl (by omega) w.heap.size b nn D0 _ (by simp) (by simp) (by
      obtain ⟨es, clock, hb, Ft, hs, hD⟩ := hown
      exact ⟨es, clock, (Below.heap_alloc _ _ b hbl).trans hb, Ft, hs, hD⟩)
  refine CallsIn.mono (AnyZI.sorted_in sortedL Fence.wide n trivial trivial trivial trivial rfl (by omega) (sortsIn _) (enters_of Try.func240 (by kernel_rfl) rfl) 248 #[.pointer (some ⟨w.heap.size, 0, none⟩)] trivial (enters_of Try.func248 (by kernel_rfl) rfl) _ _ hmax hbytes _ hseq) ?_
  rintro e w' ⟨v, ss, h1, h2, h3, _, h5⟩
  exact ⟨v, ss, h1, h2, h3, h5⟩
end Go.Proofs.Ytnhmeepifockgaa
