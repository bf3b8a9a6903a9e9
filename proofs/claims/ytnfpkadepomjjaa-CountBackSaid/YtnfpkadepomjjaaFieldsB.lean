/- The statements of layer 1: the document's functions compute the same plain functions; the calls of 'first' answer true. -/
import Derived.Test.YtnfpkadepomjjaaFieldsA
set_option linter.all false
namespace Go.Proofs.Ytnfpkadepomjjaa
open Go.RowKit

theorem ref_handle_any (a b : Nat) (w : World) :
    Calls Try.prog 158 #[.int .u64 a, .int .u64 b] w fun e w' => e = .returned (.int .u64 (handleF a b).1) ∧ w = w' := by
  by_cases h1 : 1 ≤ a
  · by_cases h2 : a ≤ 268435455
    · by_cases h3 : 1 ≤ b
      · by_cases h4 : b ≤ 65535
        · have Hf := Lib.hid (show handleF a b = (a * 65536 + b, true) from if_pos ⟨⟨h1, h2⟩, h3, h4⟩)
          go_enter Try.func158, Try.ntmps158
          go_wp2
          go_ret
          exact ⟨by rw [Hf.out]; simp, rfl⟩
        · have Hf := Lib.hid (show handleF a b = (0, false) from if_neg (by omega))
          go_enter Try.func158, Try.ntmps158
          go_wp2
          go_ret
          exact ⟨by rw [Hf.out]; simp, rfl⟩
      · have Hf := Lib.hid (show handleF a b = (0, false) from if_neg (by omega))
        go_enter Try.func158, Try.ntmps158
        go_wp2
        go_ret
        exact ⟨by rw [Hf.out]; simp, rfl⟩
    · have Hf := Lib.hid (show handleF a b = (0, false) from if_neg (by omega))
      go_enter Try.func158, Try.ntmps158
      go_wp2
      go_ret
      exact ⟨by rw [Hf.out]; simp, rfl⟩
  · have Hf := Lib.hid (show handleF a b = (0, false) from if_neg (by omega))
    go_enter Try.func158, Try.ntmps158
    go_wp2
    go_ret
    exact ⟨by rw [Hf.out]; simp, rfl⟩

theorem ref_right_any (h : Nat) (w : World) (hh : h < TW) :
    Calls Try.prog 237 #[.int .u64 h] w fun e w' => e = .returned (.bool (rightF h)) ∧ w = w' := by
  have Hr : Hid (rightF h = (decide (1 ≤ h / 65536) && decide (h / 65536 ≤ 268435455) && decide (1 ≤ h % 65536))) := by
    show _ = _
    unfold rightF handleF
    split
    · simp; omega
    · simp; omega
  unfold TW at hh
  go_enter Try.func237, Try.ntmps237
  go_wp2
  all_goals (go_ret; refine ⟨?_, rfl⟩; rw [Hr.out]; congr 2; simp; try first | omega | (rw [Bool.eq_iff_iff]; simp; omega))

end Go.Proofs.Ytnfpkadepomjjaa