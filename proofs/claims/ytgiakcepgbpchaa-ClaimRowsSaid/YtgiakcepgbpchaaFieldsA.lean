/- Contracts of package fields (layer 1), leaves first: each call computes the plain function and leaves the world alone. -/
import Derived.Test.YtgiakcepgbpchaaProg
import Derived.WalkKit
import Derived.WalkSpells
import Derived.WalkLawsBesides
import Derived.Lib.Hide
import Derived.Test.YtgiakcepgbpchaaPlainA
set_option linter.all false
namespace Go.Proofs.Ytgiakcepgbpchaa
open Go.RowKit

theorem between_any (n a b : Nat) (w : World) :
    Calls Try.prog 136 #[.int .u64 n, .int .u64 a, .int .u64 b] w fun e w' => e = .returned (.bool (decide (a ≤ n) && decide (n ≤ b))) ∧ w = w' := by
  go_enter Try.func136, Try.ntmps136
  go_wp2
  all_goals (go_ret; refine ⟨?_, rfl⟩; congr 2; simp; try omega)

theorem low_any (n k : Nat) (w : World) (hn : n < TW) (h1 : k ≤ 32) :
    Calls Try.prog 154 #[.int .u64 n, .int .i64 k] w fun e w' => e = .returned (.int .u64 (n % 2 ^ k : Nat)) ∧ w = w' := by
  have hl := and_low n k hn (by omega)
  go_enter Try.func154, Try.ntmps154
  go_wp2
  go_ret
  exact ⟨by simp at hl ⊢, rfl⟩

theorem block_any (h : Nat) (w : World) (hh : h < TW) :
    Calls Try.prog 125 #[.int .u64 h] w fun e w' => e = .returned (.int .u64 (h % 65536 : Nat)) ∧ w = w' := by
  go_enter Try.func125, Try.ntmps125
  go_wp2_with fail
  refine (low_any h 16 _ hh (by omega)).mono ?_; rintro e w' ⟨rfl, rfl⟩
  go_wp2
  go_ret
  exact ⟨by simp, rfl⟩

theorem handle_any (a b : Nat) (w : World) :
    Calls Try.prog 98 #[.int .u64 a, .int .u64 b] w fun e w' => e = .returned (.tuple #[.int .u64 (handleF a b).1, .bool (handleF a b).2]) ∧ w = w' := by
  by_cases h1 : 1 ≤ a ∧ a ≤ 268435455
  · by_cases h2 : 1 ≤ b ∧ b ≤ 65535
    · have Hf := Lib.hid (show handleF a b = (a * 65536 + b, true) from if_pos ⟨h1, h2⟩)
      have Ho := Lib.hid (or16 a b h1.2 h2.2)
      obtain ⟨ha1, ha2⟩ := h1
      obtain ⟨hb1, hb2⟩ := h2
      go_enter Try.func98, Try.ntmps98
      go_wp2_with fail
      refine (between_any a 1 268435455 _).mono ?_; rintro e w' ⟨rfl, rfl⟩
      go_wp2_with fail
      refine (between_any b 1 65535 _).mono ?_; rintro e w' ⟨rfl, rfl⟩
      go_wp2
      go_ret2
      exact ⟨by rw [Hf.out]; simp [Ho.out], rfl⟩
    · have Hf := Lib.hid (show handleF a b = (0, false) from if_neg (fun h => h2 h.2))
      have hb : (decide (1 ≤ b) && decide (b ≤ 65535)) = false := by simp; omega
      have ha : (decide (1 ≤ a) && decide (a ≤ 268435455)) = true := by simp; omega
      go_enter Try.func98, Try.ntmps98
      go_wp2_with fail
      refine (between_any a 1 268435455 _).mono ?_; rintro e w' ⟨rfl, rfl⟩
      rw [ha]
      go_wp2_with fail
      refine (between_any b 1 65535 _).mono ?_; rintro e w' ⟨rfl, rfl⟩
      rw [hb]
      go_wp2
      go_ret2
      exact ⟨by rw [Hf.out]; simp, rfl⟩
  · have Hf := Lib.hid (show handleF a b = (0, false) from if_neg (fun h => h1 h.1))
    have ha : (decide (1 ≤ a) && decide (a ≤ 268435455)) = false := by simp; omega
    go_enter Try.func98, Try.ntmps98
    go_wp2_with fail
    refine (between_any a 1 268435455 _).mono ?_; rintro e w' ⟨rfl, rfl⟩
    rw [ha]
    go_wp2
    go_ret2
    exact ⟨by rw [Hf.out]; simp, rfl⟩

theorem top_any (h : Nat) (w : World) :
    Calls Try.prog 158 #[.int .u64 h] w fun e w' => e = .returned (.int .u64 (h / 1048576 : Nat)) ∧ w = w' := by
  go_enter Try.func158, Try.ntmps158
  go_wp2
  go_ret
  exact ⟨by simp, rfl⟩

theorem seq_any (h : Nat) (w : World) :
    Calls Try.prog 185 #[.int .u64 h] w fun e w' => e = .returned (.int .u64 (h / 4294967296 : Nat)) ∧ w = w' := by
  go_enter Try.func185, Try.ntmps185
  go_wp2
  go_ret
  exact ⟨by simp, rfl⟩

theorem body_any (h : Nat) (w : World) (hh : h < TW) :
    Calls Try.prog 184 #[.int .u64 h] w fun e w' => e = .returned (.int .u64 (h % 4294967296 : Nat)) ∧ w = w' := by
  go_enter Try.func184, Try.ntmps184
  go_wp2_with fail
  refine (low_any h 32 _ hh (by omega)).mono ?_; rintro e w' ⟨rfl, rfl⟩
  go_wp2
  go_ret
  exact ⟨by simp, rfl⟩

end Go.Proofs.Ytgiakcepgbpchaa