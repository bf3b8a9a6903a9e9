/- The library's contracts of maps.Clone, maps.Keys, slices.Sorted and slices.Sort, laid at this program. -/
import Derived.Test.YtgiakcepgbpchaaProg
import Derived.Shelf.SlMaps.Clone
import Derived.Shelf.SlIterI.Sorted
import Derived.Shelf.SortM.Plain
import Derived.Shelf.SortM.SortNone
set_option linter.all false
namespace Go.Proofs.Ytgiakcepgbpchaa
open Go Go.Shelf Go.RowKit Go.Maps Go.Sort
def mapsClone_ren : Go.Shelf.Ren := ⟨fun | 5 => 145 | 7 => 165 | n => n, fun | 23 => 201 | 25 => 3 | 3 => 3 | 4 => 4 | 20 => 20 | n => n, fun | n => n⟩
theorem mapsClone : Go.Proofs.SlLaysW.n5 Try.prog mapsClone_ren where
  mixed := by kernel_rfl
  f5 := ⟨Try.f145.name, by decide, Try.func145.trans (congrArg some (by kernel_rfl))⟩
  f7 := Try.func165.trans (congrArg some (by kernel_rfl))
  t4 := Try.underlying4
  a4 := Try.isAgg4
  z4 := Try.sizeOf4
  v4 := Try.zeroValue4
  t20 := Try.underlying20
  a20 := Try.isAgg20
  z20 := Try.sizeOf20
  v20 := Try.zeroValue20
  t23 := Try.underlying201
  a23 := Try.isAgg201
  z23 := Try.sizeOf201
  v23 := Try.zeroValue201
def keysL_ren : Go.Shelf.Ren := ⟨fun | 7 => 153 | 10 => 170 | n => n, fun | 23 => 148 | 26 => 3 | 3 => 157 | 28 => 216 | 0 => 0 | 27 => 215 | 33 => 230 | 4 => 4 | n => n, fun | n => n⟩
theorem keysL : Go.Proofs.SlLaysZI.n7 Try.prog keysL_ren where
  mixed := by kernel_rfl
  f7 := ⟨Try.f153.name, by decide, Try.func153.trans (congrArg some (by kernel_rfl))⟩
  f10 := ⟨Try.f170.name, by decide, Try.func170.trans (congrArg some (by kernel_rfl))⟩
  t0 := Try.underlying0
  a0 := Try.isAgg0
  z0 := Try.sizeOf0
  v0 := Try.zeroValue0
  t4 := Try.underlying4
  a4 := Try.isAgg4
  z4 := Try.sizeOf4
  v4 := Try.zeroValue4
  t23 := Try.underlying148
  a23 := Try.isAgg148
  z23 := Try.sizeOf148
  v23 := Try.zeroValue148
  t26 := Try.underlying3
  a26 := Try.isAgg3
  z26 := Try.sizeOf3
  v26 := Try.zeroValue3
  t27 := Try.underlying215
  a27 := Try.isAgg215
  z27 := Try.sizeOf215
  v27 := Try.zeroValue215
  t28 := Try.underlying216
  a28 := Try.isAgg216
  z28 := Try.sizeOf216
  v28 := Try.zeroValue216
  t33 := Try.underlying230
  a33 := Try.isAgg230
  z33 := Try.sizeOf230
  v33 := Try.zeroValue230
def sortedL_ren : Go.Shelf.Ren := ⟨fun | 6 => 152 | 8 => 168 | 9 => 169 | 11 => 179 | 13 => 181 | 12 => 180 | 23 => 195 | 24 => 196 | 14 => 186 | 15 => 187 | 16 => 188 | 17 => 189 | 18 => 190 | 19 => 191 | 20 => 192 | 21 => 193 | 22 => 194 | 25 => 198 | 26 => 199 | 27 => 200 | 28 => 201 | 29 => 202 | 30 => 203 | 31 => 206 | n => n, fun | 26 => 3 | 28 => 216 | 24 => 35 | 0 => 0 | 3 => 3 | 37 => 60 | 48 => 251 | 50 => 25 | 4 => 4 | 40 => 245 | 39 => 244 | 45 => 221 | 5 => 5 | 9 => 9 | 51 => 252 | 55 => 255 | 57 => 265 | 58 => 41 | 33 => 230 | n => n, fun | n => n⟩
theorem sortedL : Go.Proofs.SlLaysZI.n6 Try.prog sortedL_ren where
  mixed := by kernel_rfl
  f6 := ⟨Try.f152.name, by decide, Try.func152.trans (congrArg some (by kernel_rfl))⟩
  f8 := ⟨Try.f168.name, by decide, Try.func168.trans (congrArg some (by kernel_rfl))⟩
  f11 := ⟨Try.f179.name, by decide, Try.func179.trans (congrArg some (by kernel_rfl))⟩
  t0 := Try.underlying0
  a0 := Try.isAgg0
  z0 := Try.sizeOf0
  v0 := Try.zeroValue0
  t24 := Try.underlying35
  a24 := Try.isAgg35
  z24 := Try.sizeOf35
  v24 := Try.zeroValue35
  t26 := Try.underlying3
  a26 := Try.isAgg3
  z26 := Try.sizeOf3
  v26 := Try.zeroValue3
  t28 := Try.underlying216
  a28 := Try.isAgg216
  z28 := Try.sizeOf216
  v28 := Try.zeroValue216
  i26 := by kernel_rfl
def sortL_ren : Go.Shelf.Ren := ⟨fun | 5 => 169 | 8 => 181 | 7 => 180 | 19 => 195 | 20 => 196 | 10 => 186 | 11 => 187 | 12 => 188 | 13 => 189 | 14 => 190 | 15 => 191 | 16 => 192 | 17 => 193 | 18 => 194 | 30 => 198 | 31 => 199 | 32 => 200 | 33 => 201 | 34 => 202 | 35 => 203 | 40 => 206 | n => n, fun | 23 => 35 | 25 => 3 | 3 => 3 | 32 => 60 | 22 => 35 | 0 => 0 | 44 => 251 | 46 => 25 | 4 => 4 | 36 => 245 | 35 => 244 | 41 => 221 | 5 => 5 | 9 => 9 | 53 => 252 | 57 => 255 | 63 => 265 | 64 => 41 | n => n, fun | n => n⟩
theorem sortL : Go.Proofs.SlLaysM.n5 Try.prog sortL_ren where
  mixed := by kernel_rfl
  f5 := ⟨Try.f169.name, by decide, Try.func169.trans (congrArg some (by kernel_rfl))⟩
  f7 := ⟨Try.f180.name, by decide, Try.func180.trans (congrArg some (by kernel_rfl))⟩
  f8 := Try.func181.trans (congrArg some (by kernel_rfl))
  f10 := ⟨Try.f186.name, by decide, Try.func186.trans (congrArg some (by kernel_rfl))⟩
  f11 := ⟨Try.f187.name, by decide, Try.func187.trans (congrArg some (by kernel_rfl))⟩
  f12 := ⟨Try.f188.name, by decide, Try.func188.trans (congrArg some (by kernel_rfl))⟩
  f13 := ⟨Try.f189.name, by decide, Try.func189.trans (congrArg some (by kernel_rfl))⟩
  f14 := ⟨Try.f190.name, by decide, Try.func190.trans (congrArg some (by kernel_rfl))⟩
  f15 := ⟨Try.f191.name, by decide, Try.func191.trans (congrArg some (by kernel_rfl))⟩
  f16 := ⟨Try.f192.name, by decide, Try.func192.trans (congrArg some (by kernel_rfl))⟩
  f17 := ⟨Try.f193.name, by decide, Try.func193.trans (congrArg some (by kernel_rfl))⟩
  f18 := ⟨Try.f194.name, by decide, Try.func194.trans (congrArg some (by kernel_rfl))⟩
  f19 := Try.func195.trans (congrArg some (by kernel_rfl))
  f20 := Try.func196.trans (congrArg some (by kernel_rfl))
  f30 := ⟨Try.f198.name, by decide, Try.func198.trans (congrArg some (by kernel_rfl))⟩
  f31 := Try.func199.trans (congrArg some (by kernel_rfl))
  f32 := Try.func200.trans (congrArg some (by kernel_rfl))
  f33 := ⟨Try.f201.name, by decide, Try.func201.trans (congrArg some (by kernel_rfl))⟩
  f34 := ⟨Try.f202.name, by decide, Try.func202.trans (congrArg some (by kernel_rfl))⟩
  f35 := ⟨Try.f203.name, by decide, Try.func203.trans (congrArg some (by kernel_rfl))⟩
  f40 := ⟨Try.f206.name, by decide, Try.func206.trans (congrArg some (by kernel_rfl))⟩
  t0 := Try.underlying0
  a0 := Try.isAgg0
  z0 := Try.sizeOf0
  v0 := Try.zeroValue0
  t3 := Try.underlying3
  a3 := Try.isAgg3
  z3 := Try.sizeOf3
  v3 := Try.zeroValue3
  t4 := Try.underlying4
  a4 := Try.isAgg4
  z4 := Try.sizeOf4
  v4 := Try.zeroValue4
  t5 := Try.underlying5
  a5 := Try.isAgg5
  z5 := Try.sizeOf5
  v5 := Try.zeroValue5
  t9 := Try.underlying9
  a9 := Try.isAgg9
  z9 := Try.sizeOf9
  v9 := Try.zeroValue9
  t22 := Try.underlying35
  a22 := Try.isAgg35
  z22 := Try.sizeOf35
  v22 := Try.zeroValue35
  t23 := Try.underlying35
  a23 := Try.isAgg35
  z23 := Try.sizeOf35
  v23 := Try.zeroValue35
  t25 := Try.underlying3
  a25 := Try.isAgg3
  z25 := Try.sizeOf3
  v25 := Try.zeroValue3
  t32 := Try.underlying60
  a32 := Try.isAgg60
  z32 := Try.sizeOf60
  v32 := Try.zeroValue60
  t35 := Try.underlying244
  a35 := Try.isAgg244
  z35 := Try.sizeOf244
  v35 := Try.zeroValue244
  t36 := Try.underlying245
  a36 := Try.isAgg245
  z36 := Try.sizeOf245
  v36 := Try.zeroValue245
  t41 := Try.underlying221
  a41 := Try.isAgg221
  z41 := Try.sizeOf221
  v41 := Try.zeroValue221
  t44 := Try.underlying251
  a44 := Try.isAgg251
  z44 := Try.sizeOf251
  v44 := Try.zeroValue251
  t46 := Try.underlying25
  a46 := Try.isAgg25
  z46 := Try.sizeOf25
  v46 := Try.zeroValue25
  t53 := Try.underlying252
  a53 := Try.isAgg252
  z53 := Try.sizeOf252
  v53 := Try.zeroValue252
  t57 := Try.underlying255
  a57 := Try.isAgg255
  z57 := Try.sizeOf255
  v57 := Try.zeroValue255
  t63 := Try.underlying265
  a63 := Try.isAgg265
  z63 := Try.sizeOf265
  v63 := Try.zeroValue265
  t64 := Try.underlying41
  a64 := Try.isAgg41
  z64 := Try.sizeOf41
  v64 := Try.zeroValue41
theorem sortsIn (m : Nat) : AnyZI.SortsIn Try.prog sortedL_ren Fence.wide m :=
  ⟨fun blk off cap ss W hH hblk hsz => callsIn_wide.2 (AnyM.slices_Sort_int sortL blk off cap ss W hH hblk hsz), fun p cap W => callsIn_wide.2 (AnyM.slices_Sort_int_none sortL p cap W)⟩
/-- maps.Keys: a function value over one new block, which holds the map. -/
theorem keys_of (mb : Option Nat) (n : Nat) (W : World) : CallsIn Fence.wide n Try.prog 153 #[.map mb] W fun e w' =>
    e = .returned (.func (.func 170) #[] #[.pointer (some ⟨W.heap.size, 0, none⟩)]) ∧ w' = W.alloc (.cells #[.map mb] 148) :=
  AnyZI.keys_in keysL Fence.wide n trivial rfl mb W
theorem sorted_of {H : Type} (b nn : Nat) (D0 : DataW H) (R : Value → Option (DataW H × List MemPlace)) (w : World) (hown : w.ownsMap Try.prog 3 R b nn D0) (hmax : Maps.size D0 ≤ maxLen) (hbytes : Maps.size D0 * 8 ≤ 140737488355328) (n : Nat) (hn : 5 ≤ n) :
    CallsIn Fence.wide n Try.prog 152 #[.func (.func 170) #[] #[.pointer (some ⟨w.heap.size, 0, none⟩)]] (w.alloc (.cells #[.map (some b)] 148)) fun e w' =>
      ∃ (v : Value) (ss : List Int), e = .returned v ∧ ss.Perm (intKeys D0) ∧
      w'.ownsRow (w.alloc (.cells #[.map (some b)] 148)).heap.size 3 1 v ss.length ((ss.mergeSort (fun x y => decide (x ≤ y))).map encZ) ∧ Below (w.alloc (.cells #[.map (some b)] 148)).heap.size (w.alloc (.cells #[.map (some b)] 148)) w' := by
  have hbl := hown.lt
  have hseq : SeqGives Fence.wide (n - 1 - 1 - 1) Try.prog 170 #[.pointer (some ⟨w.heap.size, 0, none⟩)] encZ (fun ss => ss.Perm (intKeys D0)) (Maps.size D0) (w.alloc (.cells #[.map (some b)] 148)) :=
    AnyZI.keys_gives (ρ := keysL_ren) { keysL with } Fence.wide _ trivial rfl (by omega) w.heap.size b nn D0 _ (by simp) (by simp) (by
      obtain ⟨es, clock, hb, Ft, hs, hD⟩ := hown
      exact ⟨es, clock, (Below.heap_alloc _ _ b hbl).trans hb, Ft, hs, hD⟩)
  refine CallsIn.mono (AnyZI.sorted_in sortedL Fence.wide n trivial trivial trivial trivial rfl (by omega) (sortsIn _) (enters_of Try.func169 (by kernel_rfl) rfl) 170 #[.pointer (some ⟨w.heap.size, 0, none⟩)] trivial (enters_of Try.func170 (by kernel_rfl) rfl) _ _ hmax hbytes _ hseq) ?_
  rintro e w' ⟨v, ss, h1, h2, h3, _, h5⟩
  exact ⟨v, ss, h1, h2, h3, h5⟩
end Go.Proofs.Ytgiakcepgbpchaa
