/- FieldsTell: the walk. The parts of any word, and the turn behind it. -/
import Derived.Test.YtohijcgbfcahhaaFieldsB
import Derived.RowKit3
namespace Go.Proofs.Ytohijcgbfcahhaa
open Go.RowKit

theorem fieldsTell_nat (a : Nat) (w : World) (ha : a < TW) :
    Calls Try.prog 4 #[.int .u64 a] w fun e w' => e = .returned (.bool true) ∧ w = w' := by
  have hd : a / 1048576 < TW := by omega
  have ha' := ha
  unfold TW at ha'
  go_enter Try.func4, Try.ntmps4
  go_wp2_with fail
  refine (first01 _).mono ?_; rintro e w' ⟨rfl, rfl⟩
  go_wp2_with fail
  refine (next_any a _ ha).mono ?_; rintro e w' ⟨rfl, rfl⟩
  go_wp2_with fail
  refine (ref_root_any (a / 1048576) (a % 1048576 + 1) _ hd).mono ?_; rintro e w' ⟨rfl, rfl⟩
  go_wp2_with fail
  refine (block_any a _ ha).mono ?_; rintro e w' ⟨rfl, rfl⟩
  go_wp2_with fail
  refine (birth_any a _).mono ?_; rintro e w' ⟨rfl, rfl⟩
  go_wp2_with fail
  refine (turn_any a _ ha).mono ?_; rintro e w' ⟨rfl, rfl⟩
  go_wp2_with fail
  refine (top_any a _).mono ?_; rintro e w' ⟨rfl, rfl⟩
  go_wp2_with fail
  refine (body_any a _ ha).mono ?_; rintro e w' ⟨rfl, rfl⟩
  go_wp2_with fail
  refine (seq_any a _).mono ?_; rintro e w' ⟨rfl, rfl⟩
  go_wp2
  go_ret
  exact ⟨by simp [nextF], rfl⟩
end Go.Proofs.Ytohijcgbfcahhaa
