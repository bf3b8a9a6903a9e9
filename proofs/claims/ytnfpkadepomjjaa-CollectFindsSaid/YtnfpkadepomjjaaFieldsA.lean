/- Contracts of package fields (layer 1), leaves first: each call computes the plain function and leaves the world alone. -/
import Derived.Test.YtnfpkadepomjjaaProg
import Derived.WalkKit
import Derived.WalkSpells
import Derived.WalkLawsBesides
import Derived.Lib.Hide
import Derived.Test.YtnfpkadepomjjaaBasePl
set_option linter.all false
namespace Go.Proofs.Ytnfpkadepomjjaa
open Go.RowKit

theorem between_any (n a b : Nat) (w : World) :
    Calls Try.prog 200 #[.int .u64 n, .int .u64 a, .int .u64 b] w fun e w' => e = .returned (.bool (decide (a ≤ n) && decide (n ≤ b))) ∧ w = w' := by
  go_enter Try.func200, Try.ntmps200
  go_wp2
  all_goals (go_ret; refine ⟨?_, rfl⟩; congr 2; simp; try omega)

theorem low_any (n k : Nat) (w : World) (hn : n < TW) (h1 : k ≤ 32) :
    Calls Try.prog 201 #[.int .u64 n, .int .i64 k] w fun e w' => e = .returned (.int .u64 (n % 2 ^ k : Nat)) ∧ w = w' := by
  have hl := and_low n k hn (by omega)
  go_enter Try.func201, Try.ntmps201
  go_wp2
  go_ret
  exact ⟨by simp at hl ⊢, rfl⟩

theorem birth_any (h : Nat) (w : World) :
    Calls Try.prog 234 #[.int .u64 h] w fun e w' => e = .returned (.int .u64 (h / 65536 : Nat)) ∧ w = w' := by
  go_enter Try.func234, Try.ntmps234
  go_wp2
  go_ret
  exact ⟨by simp, rfl⟩

theorem block_any (h : Nat) (w : World) (hh : h < TW) :
    Calls Try.prog 151 #[.int .u64 h] w fun e w' => e = .returned (.int .u64 (h % 65536 : Nat)) ∧ w = w' := by
  go_enter Try.func151, Try.ntmps151
  go_wp2_with fail
  refine (low_any h 16 _ hh (by omega)).mono ?_; rintro e w' ⟨rfl, rfl⟩
  go_wp2
  go_ret
  exact ⟨by simp, rfl⟩

theorem handle_any (a b : Nat) (w : World) :
    Calls Try.prog 148 #[.int .u64 a, .int .u64 b] w fun e w' => e = .returned (.tuple #[.int .u64 (handleF a b).1, .bool (handleF a b).2]) ∧ w = w' := by
  by_cases h1 : 1 ≤ a ∧ a ≤ 268435455
  · by_cases h2 : 1 ≤ b ∧ b ≤ 65535
    · have Hf := Lib.hid (show handleF a b = (a * 65536 + b, true) from if_pos ⟨h1, h2⟩)
      have Ho := Lib.hid (or16 a b h1.2 h2.2)
      obtain ⟨ha1, ha2⟩ := h1
      obtain ⟨hb1, hb2⟩ := h2
      go_enter Try.func148, Try.ntmps148
      go_wp2_with fail
      refine (between_any a 1 268435455 _).mono ?_; rintro e w' ⟨rfl, rfl⟩
      go_wp2_with fail
      refine (between_any b 1 65535 _).mono ?_; rintro e w' ⟨rfl, rfl⟩
      go_wp2
      go_ret2
      exact ⟨by rw [Hf.out]; simp [Ho.out], rfl⟩
    · have Hf := Lib.hid (show handleF a b = (0, false) from if_neg (fun h => h2 h.2))
      have hb : (decide (1 ≤ b) && decide (b ≤ 65535)) = false := by simp; omega
      have ha : (decide (1 ≤ a) && decide (a ≤ 268435455)) = true := by simp; omega
      go_enter Try.func148, Try.ntmps148
      go_wp2_with fail
      refine (between_any a 1 268435455 _).mono ?_; rintro e w' ⟨rfl, rfl⟩
      rw [ha]
      go_wp2_with fail
      refine (between_any b 1 65535 _).mono ?_; rintro e w' ⟨rfl, rfl⟩
      rw [hb]
      go_wp2
      go_ret2
      exact ⟨by rw [Hf.out]; simp, rfl⟩
  · have Hf := Lib.hid (show handleF a b = (0, false) from if_neg (fun h => h1 h.1))
    have ha : (decide (1 ≤ a) && decide (a ≤ 268435455)) = false := by simp; omega
    go_enter Try.func148, Try.ntmps148
    go_wp2_with fail
    refine (between_any a 1 268435455 _).mono ?_; rintro e w' ⟨rfl, rfl⟩
    rw [ha]
    go_wp2
    go_ret2
    exact ⟨by rw [Hf.out]; simp, rfl⟩

theorem right_any (h : Nat) (w : World) (hh : h < TW) :
    Calls Try.prog 215 #[.int .u64 h] w fun e w' => e = .returned (.bool (rightF h)) ∧ w = w' := by
  go_enter Try.func215, Try.ntmps215
  go_wp2_with fail
  refine (birth_any h _).mono ?_; rintro e w' ⟨rfl, rfl⟩
  go_wp2_with fail
  refine (block_any h _ hh).mono ?_; rintro e w' ⟨rfl, rfl⟩
  go_wp2_with fail
  refine (handle_any (h / 65536) (h % 65536) _).mono ?_; rintro e w' ⟨rfl, rfl⟩
  go_wp2
  go_ret
  exact ⟨rfl, rfl⟩

theorem body_any (h : Nat) (w : World) (hh : h < TW) :
    Calls Try.prog 190 #[.int .u64 h] w fun e w' => e = .returned (.int .u64 (h % 4294967296 : Nat)) ∧ w = w' := by
  go_enter Try.func190, Try.ntmps190
  go_wp2_with fail
  refine (low_any h 32 _ hh (by omega)).mono ?_; rintro e w' ⟨rfl, rfl⟩
  go_wp2
  go_ret
  exact ⟨by simp, rfl⟩

end Go.Proofs.Ytnfpkadepomjjaa