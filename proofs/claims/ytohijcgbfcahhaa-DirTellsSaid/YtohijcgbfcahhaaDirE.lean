/- The statements of layer 10: 'first' answers true. -/
import Derived.Test.YtohijcgbfcahhaaDirD
import Derived.Laws.StructEq
import Derived.Deep.DeepCutAuto
namespace Go.Proofs.Ytohijcgbfcahhaa
open Go.RowKit

theorem path5 : ints (pathOf 5) = [.int .i64 6, .int .i64 3, .int .i64 1] := by rw [show pathOf 5 = [6, 3, 1] from by decide]; rfl

set_option maxHeartbeats 400000 in
theorem first10 (w : World) :
    Calls Try.prog 26 #[] w fun e w' => e = .returned (.bool true) ∧ Below w.heap.size w w' := by
  go_enter Try.func26, Try.ntmps26
  go_wp2_with fail
  refine (segment_yes 5 _ (by omega)).mono ?_; rintro e w' ⟨rfl, n, rfl⟩
  rw [show segG 5 = 2 from by decide, show segO 5 = 2 from by decide]
  go_wp2_with fail
  refine (path_yes 5 _ (by omega)).mono ?_; rintro e w1 ⟨v, rfl, hown, hb1⟩
  rw [path5, show segG 5 = 2 from by decide] at hown
  obtain ⟨g, cap, rfl, hg1, hg2⟩ := hown.form (by omega)
  have hb := (below_drewN (Below.refl w.heap.size w) n).trans hb1
  have c0 := hown.cellAt 0 (by omega)
  have c1 := hown.cellAt 1 (by omega)
  have c2 := hown.cellAt 2 (by omega)
  simp at c0 c1 c2
  clear hown hb1
  go_wp2_with fail
  refine (word_yes 9 5 2 _ (by omega) (by omega)).mono ?_; rintro e w2 ⟨rfl, hb2⟩
  rw [show segO 5 = 2 from by decide]
  have x2 := Ext.of_below hb2
  have hbb := hb.trans (hb2.mono hb.size)
  replace c0 := x2.cell c0
  replace c1 := x2.cell c1
  replace c2 := x2.cell c2
  replace hg2 := x2.lt hg2
  clear hb hb2 x2
  go_wp2_with fail
  refine (counter_yes 9 2 6 _ (by omega) (by omega) (by omega)).mono ?_; rintro e w3 ⟨rfl, hb3⟩
  have x3 := Ext.of_below hb3
  have hb := hbb.trans (((Below.refl _ _).alloc hbb.size _).trans (hb3.mono (by have := hbb.size; simp; omega)))
  have e0 : (w2.alloc (.cells #[.int .u64 9, .int .i64 12] 41)).cell? ⟨w2.heap.size, 0, none⟩ = some (.int .u64 9) := by go_simp
  have e1 : (w2.alloc (.cells #[.int .u64 9, .int .i64 12] 41)).cell? ⟨w2.heap.size, 1, none⟩ = some (.int .i64 12) := by go_simp
  replace e0 := x3.cell e0
  replace e1 := x3.cell e1
  have hw3 : w2.heap.size < w3.heap.size := x3.lt (by simp)
  replace x3 := ((Ext.refl _).alloc _).trans x3
  replace hg2 := x3.lt hg2
  replace c0 := x3.cell c0
  replace c1 := x3.cell c1
  replace c2 := x3.cell c2
  clear hbb hb3 x3
  go_wp2_with fail
  refine (slot_yes 2 6 _ (by omega) (by omega) (by omega)).mono ?_; rintro e w' ⟨rfl, rfl⟩
  go_wp2_with fail
  refine (segment_no 255 _ (by omega)).mono ?_; rintro e w' ⟨rfl, rfl⟩
  go_wp2_with fail
  refine (size_yes 2 _ (by omega)).mono ?_; rintro e w' ⟨rfl, rfl⟩
  go_wp2_with fail
  refine (fixed_any 2 _).mono ?_; rintro e w4 ⟨rfl, hb4⟩
  rw [show (1 + max 0 (min (2 : Int) 7)) = 3 from by decide]
  go_wp2
  go_ret
  exact ⟨rfl, hb.trans (((Below.refl _ _).alloc hb.size _).trans (hb4.mono (by have := hb.size; simp; omega)))⟩
end Go.Proofs.Ytohijcgbfcahhaa
