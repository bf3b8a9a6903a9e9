/- The library's contracts of maps.Clone, maps.Keys, slices.Sorted and slices.Sort, laid at this program. -/
import Derived.Test.YtnkikhhiaecebaaProg
import Derived.Shelf.SlMaps.Clone
import Derived.Shelf.SlIterI.Sorted
import Derived.Shelf.SortM.Plain
import Derived.Shelf.SortM.SortNone
set_option linter.all false
namespace Go.Proofs.Ytnkikhhiaecebaa
open Go Go.Shelf Go.RowKit Go.Maps Go.Sort
def mapsClone_ren : Go.Shelf.Ren := ⟨fun | 5 => 136 | 7 => 189 | n => n, fun | 23 => 240 | 25 => 3 | 3 => 3 | 4 => 4 | 20 => 20 | n => n, fun | n => n⟩
theorem mapsClone : Go.Proofs.SlLaysW.n5 Try.prog mapsClone_ren where
  mixed := by kernel_rfl
  f5 := ⟨Try.f136.name, by decide, Try.func136.trans (congrArg some (by kernel_rfl))⟩
  f7 := Try.func189.trans (congrArg some (by kernel_rfl))
  t4 := Try.underlying4
  a4 := Try.isAgg4
  z4 := Try.sizeOf4
  v4 := Try.zeroValue4
  t20 := Try.underlying20
  a20 := Try.isAgg20
  z20 := Try.sizeOf20
  v20 := Try.zeroValue20
  t23 := Try.underlying240
  a23 := Try.isAgg240
  z23 := Try.sizeOf240
  v23 := Try.zeroValue240
def keysL_ren : Go.Shelf.Ren := ⟨fun | 7 => 164 | 10 => 202 | n => n, fun | 23 => 170 | 26 => 3 | 3 => 179 | 28 => 281 | 0 => 0 | 27 => 280 | 33 => 265 | 4 => 4 | n => n, fun | n => n⟩
theorem keysL : Go.Proofs.SlLaysZI.n7 Try.prog keysL_ren where
  mixed := by kernel_rfl
  f7 := ⟨Try.f164.name, by decide, Try.func164.trans (congrArg some (by kernel_rfl))⟩
  f10 := ⟨Try.f202.name, by decide, Try.func202.trans (congrArg some (by kernel_rfl))⟩
  t0 := Try.underlying0
  a0 := Try.isAgg0
  z0 := Try.sizeOf0
  v0 := Try.zeroValue0
  t4 := Try.underlying4
  a4 := Try.isAgg4
  z4 := Try.sizeOf4
  v4 := Try.zeroValue4
  t23 := Try.underlying170
  a23 := Try.isAgg170
  z23 := Try.sizeOf170
  v23 := Try.zeroValue170
  t26 := Try.underlying3
  a26 := Try.isAgg3
  z26 := Try.sizeOf3
  v26 := Try.zeroValue3
  t27 := Try.underlying280
  a27 := Try.isAgg280
  z27 := Try.sizeOf280
  v27 := Try.zeroValue280
  t28 := Try.underlying281
  a28 := Try.isAgg281
  z28 := Try.sizeOf281
  v28 := Try.zeroValue281
  t33 := Try.underlying265
  a33 := Try.isAgg265
  z33 := Try.sizeOf265
  v33 := Try.zeroValue265
def sortedL_ren : Go.Shelf.Ren := ⟨fun | 6 => 163 | 8 => 200 | 9 => 201 | 11 => 216 | 13 => 218 | 12 => 217 | 23 => 243 | 24 => 244 | 14 => 234 | 15 => 235 | 16 => 236 | 17 => 237 | 18 => 238 | 19 => 239 | 20 => 240 | 21 => 241 | 22 => 242 | 25 => 252 | 26 => 253 | 27 => 254 | 28 => 255 | 29 => 256 | 30 => 257 | 31 => 258 | n => n, fun | 26 => 3 | 28 => 281 | 24 => 144 | 0 => 0 | 3 => 3 | 37 => 58 | 48 => 369 | 50 => 29 | 4 => 4 | 40 => 363 | 39 => 362 | 45 => 314 | 5 => 5 | 9 => 9 | 51 => 371 | 55 => 375 | 57 => 377 | 58 => 225 | 33 => 265 | n => n, fun | n => n⟩
theorem sortedL : Go.Proofs.SlLaysZI.n6 Try.prog sortedL_ren where
  mixed := by kernel_rfl
  f6 := ⟨Try.f163.name, by decide, Try.func163.trans (congrArg some (by kernel_rfl))⟩
  f8 := ⟨Try.f200.name, by decide, Try.func200.trans (congrArg some (by kernel_rfl))⟩
  f11 := ⟨Try.f216.name, by decide, Try.func216.trans (congrArg some (by kernel_rfl))⟩
  t0 := Try.underlying0
  a0 := Try.isAgg0
  z0 := Try.sizeOf0
  v0 := Try.zeroValue0
  t24 := Try.underlying144
  a24 := Try.isAgg144
  z24 := Try.sizeOf144
  v24 := Try.zeroValue144
  t26 := Try.underlying3
  a26 := Try.isAgg3
  z26 := Try.sizeOf3
  v26 := Try.zeroValue3
  t28 := Try.underlying281
  a28 := Try.isAgg281
  z28 := Try.sizeOf281
  v28 := Try.zeroValue281
  i26 := by kernel_rfl
def sortL_ren : Go.Shelf.Ren := ⟨fun | 5 => 201 | 8 => 218 | 7 => 217 | 19 => 243 | 20 => 244 | 10 => 234 | 11 => 235 | 12 => 236 | 13 => 237 | 14 => 238 | 15 => 239 | 16 => 240 | 17 => 241 | 18 => 242 | 30 => 252 | 31 => 253 | 32 => 254 | 33 => 255 | 34 => 256 | 35 => 257 | 40 => 258 | n => n, fun | 23 => 144 | 25 => 3 | 3 => 3 | 32 => 58 | 22 => 144 | 0 => 0 | 44 => 369 | 46 => 29 | 4 => 4 | 36 => 363 | 35 => 362 | 41 => 314 | 5 => 5 | 9 => 9 | 53 => 371 | 57 => 375 | 63 => 377 | 64 => 225 | n => n, fun | n => n⟩
theorem sortL : Go.Proofs.SlLaysM.n5 Try.prog sortL_ren where
  mixed := by kernel_rfl
  f5 := ⟨Try.f201.name, by decide, Try.func201.trans (congrArg some (by kernel_rfl))⟩
  f7 := ⟨Try.f217.name, by decide, Try.func217.trans (congrArg some (by kernel_rfl))⟩
  f8 := Try.func218.trans (congrArg some (by kernel_rfl))
  f10 := ⟨Try.f234.name, by decide, Try.func234.trans (congrArg some (by kernel_rfl))⟩
  f11 := ⟨Try.f235.name, by decide, Try.func235.trans (congrArg some (by kernel_rfl))⟩
  f12 := ⟨Try.f236.name, by decide, Try.func236.trans (congrArg some (by kernel_rfl))⟩
  f13 := ⟨Try.f237.name, by decide, Try.func237.trans (congrArg some (by kernel_rfl))⟩
  f14 := ⟨Try.f238.name, by decide, Try.func238.trans (congrArg some (by kernel_rfl))⟩
  f15 := ⟨Try.f239.name, by decide, Try.func239.trans (congrArg some (by kernel_rfl))⟩
  f16 := ⟨Try.f240.name, by decide, Try.func240.trans (congrArg some (by kernel_rfl))⟩
  f17 := ⟨Try.f241.name, by decide, Try.func241.trans (congrArg some (by kernel_rfl))⟩
  f18 := ⟨Try.f242.name, by decide, Try.func242.trans (congrArg some (by kernel_rfl))⟩
  f19 := Try.func243.trans (congrArg some (by kernel_rfl))
  f20 := Try.func244.trans (congrArg some (by kernel_rfl))
  f30 := ⟨Try.f252.name, by decide, Try.func252.trans (congrArg some (by kernel_rfl))⟩
  f31 := Try.func253.trans (congrArg some (by kernel_rfl))
  f32 := Try.func254.trans (congrArg some (by kernel_rfl))
  f33 := ⟨Try.f255.name, by decide, Try.func255.trans (congrArg some (by kernel_rfl))⟩
  f34 := ⟨Try.f256.name, by decide, Try.func256.trans (congrArg some (by kernel_rfl))⟩
  f35 := ⟨Try.f257.name, by decide, Try.func257.trans (congrArg some (by kernel_rfl))⟩
  f40 := ⟨Try.f258.name, by decide, Try.func258.trans (congrArg some (by kernel_rfl))⟩
  t0 := Try.underlying0
  a0 := Try.isAgg0
  z0 := Try.sizeOf0
  v0 := Try.zeroValue0
  t3 := Try.underlying3
  a3 := Try.isAgg3
  z3 := Try.sizeOf3
  v3 := Try.zeroValue3
  t4 := Try.underlying4
  a4 := Try.isAgg4
  z4 := Try.sizeOf4
  v4 := Try.zeroValue4
  t5 := Try.underlying5
  a5 := Try.isAgg5
  z5 := Try.sizeOf5
  v5 := Try.zeroValue5
  t9 := Try.underlying9
  a9 := Try.isAgg9
  z9 := Try.sizeOf9
  v9 := Try.zeroValue9
  t22 := Try.underlying144
  a22 := Try.isAgg144
  z22 := Try.sizeOf144
  v22 := Try.zeroValue144
  t23 := Try.underlying144
  a23 := Try.isAgg144
  z23 := Try.sizeOf144
  v23 := Try.zeroValue144
  t25 := Try.underlying3
  a25 := Try.isAgg3
  z25 := Try.sizeOf3
  v25 := Try.zeroValue3
  t32 := Try.underlying58
  a32 := Try.isAgg58
  z32 := Try.sizeOf58
  v32 := Try.zeroValue58
  t35 := Try.underlying362
  a35 := Try.isAgg362
  z35 := Try.sizeOf362
  v35 := Try.zeroValue362
  t36 := Try.underlying363
  a36 := Try.isAgg363
  z36 := Try.sizeOf363
  v36 := Try.zeroValue363
  t41 := Try.underlying314
  a41 := Try.isAgg314
  z41 := Try.sizeOf314
  v41 := Try.zeroValue314
  t44 := Try.underlying369
  a44 := Try.isAgg369
  z44 := Try.sizeOf369
  v44 := Try.zeroValue369
  t46 := Try.underlying29
  a46 := Try.isAgg29
  z46 := Try.sizeOf29
  v46 := Try.zeroValue29
  t53 := Try.underlying371
  a53 := Try.isAgg371
  z53 := Try.sizeOf371
  v53 := Try.zeroValue371
  t57 := Try.underlying375
  a57 := Try.isAgg375
  z57 := Try.sizeOf375
  v57 := Try.zeroValue375
  t63 := Try.underlying377
  a63 := Try.isAgg377
  z63 := Try.sizeOf377
  v63 := Try.zeroValue377
  t64 := Try.underlying225
  a64 := Try.isAgg225
  z64 := Try.sizeOf225
  v64 := Try.zeroValue225
theorem sortsIn (m : Nat) : AnyZI.SortsIn Try.prog sortedL_ren Fence.wide m :=
  ⟨fun blk off cap ss W hH hblk hsz => callsIn_wide.2 (AnyM.slices_Sort_int sortL blk off cap ss W hH hblk hsz), fun p cap W => callsIn_wide.2 (AnyM.slices_Sort_int_none sortL p cap W)⟩
/-- maps.Keys: a function value over one new block, which holds the map. -/
theorem keys_of (mb : Option Nat) (n : Nat) (W : World) : CallsIn Fence.wide n Try.prog 164 #[.map mb] W fun e w' =>
    e = .returned (.func (.func 202) #[] #[.pointer (some ⟨W.heap.size, 0, none⟩)]) ∧ w' = W.alloc (.cells #[.map mb] 170) :=
  AnyZI.keys_in keysL Fence.wide n trivial rfl mb W
theorem sorted_of {H : Type} (b nn : Nat) (D0 : DataW H) (R : Value → Option (DataW H × List MemPlace)) (w : World) (hown : w.ownsMap Try.prog 3 R b nn D0) (hmax : Maps.size D0 ≤ maxLen) (hbytes : Maps.size D0 * 8 ≤ 140737488355328) (n : Nat) (hn : 5 ≤ n) :
    CallsIn Fence.wide n Try.prog 163 #[.func (.func 202) #[] #[.pointer (some ⟨w.heap.size, 0, none⟩)]] (w.alloc (.cells #[.map (some b)] 170)) fun e w' =>
      ∃ (v : Value) (ss : List Int), e = .returned v ∧ ss.Perm (intKeys D0) ∧
      w'.ownsRow (w.alloc (.cells #[.map (some b)] 170)).heap.size 3 1 v ss.length ((ss.mergeSort (fun x y => decide (x ≤ y))).map encZ) ∧ Below (w.alloc (.cells #[.map (some b)] 170)).heap.size (w.alloc (.cells #[.map (some b)] 170)) w' := by
  have hbl := hown.lt
  have hseq : SeqGives Fence.wide (n - 1 - 1 - 1) Try.prog 202 #[.pointer (some ⟨w.heap.size, 0, none⟩)] encZ (fun ss => ss.Perm (intKeys D0)) (Maps.size D0) (w.alloc (.cells #[.map (some b)] 170)) :=
    AnyZI.keys_gives (ρ := keysL_ren) { keysL with } Fence.wide _ trivial rfl (by omega) w.heap.size b nn D0 _ (by simp) (by simp) (by
      obtain ⟨es, clock, hb, Ft, hs, hD⟩ := hown
      exact ⟨es, clock, (Below.heap_alloc _ _ b hbl).trans hb, Ft, hs, hD⟩)
  refine CallsIn.mono (AnyZI.sorted_in sortedL Fence.wide n trivial trivial trivial trivial rfl (by omega) (sortsIn _) (enters_of Try.func201 (by kernel_rfl) rfl) 202 #[.pointer (some ⟨w.heap.size, 0, none⟩)] trivial (enters_of Try.func202 (by kernel_rfl) rfl) _ _ hmax hbytes _ hseq) ?_
  rintro e w' ⟨v, ss, h1, h2, h3, _, h5⟩
  exact ⟨v, ss, h1, h2, h3, h5⟩
end Go.Proofs.Ytnkikhhiaecebaa
