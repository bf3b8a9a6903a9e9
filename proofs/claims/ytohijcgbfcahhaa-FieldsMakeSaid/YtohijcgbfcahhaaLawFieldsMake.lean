/- FieldsMake: the walk. Which words numbers make: the code's and the document's functions compute one plain function. -/
import Derived.Test.YtohijcgbfcahhaaFieldsB
import Derived.RowKit3
namespace Go.Proofs.Ytohijcgbfcahhaa
open Go.RowKit

theorem handleF_ok (a b : Nat) : (handleF a b).2 = (((handleF a b).1 : Int) != 0) := by
  unfold handleF
  split
  · simp; omega
  · simp

theorem fieldsMake_nat (a b : Nat) (w : World) (ha : a < TW) :
    Calls Try.prog 3 #[.int .u64 a, .int .u64 b] w fun e w' => e = .returned (.bool true) ∧ w = w' := by
  have hok := Lib.hid (handleF_ok a b)
  go_enter Try.func3, Try.ntmps3
  go_wp2_with fail
  refine (first01 _).mono ?_; rintro e w' ⟨rfl, rfl⟩
  go_wp2_with fail
  refine (handle_any a b _).mono ?_; rintro e w' ⟨rfl, rfl⟩
  go_wp2_with fail
  refine (root_any a b _ ha).mono ?_; rintro e w' ⟨rfl, rfl⟩
  go_wp2_with fail
  refine (note_any a b _).mono ?_; rintro e w' ⟨rfl, rfl⟩
  go_wp2_with fail
  refine (ref_handle_any a b _).mono ?_; rintro e w' ⟨rfl, rfl⟩
  rw [hok.out]
  go_wp2_with fail
  refine (ref_root_any a b _ ha).mono ?_; rintro e w' ⟨rfl, rfl⟩
  go_wp2_with fail
  refine (ref_note_any a b _).mono ?_; rintro e w' ⟨rfl, rfl⟩
  go_wp2_with fail
  refine (right_any a _ ha).mono ?_; rintro e w' ⟨rfl, rfl⟩
  go_wp2_with fail
  refine (ref_right_any a _ ha).mono ?_; rintro e w' ⟨rfl, rfl⟩
  go_wp2
  go_ret
  exact ⟨rfl, rfl⟩
end Go.Proofs.Ytohijcgbfcahhaa
