/- Contracts of package fields (layer 1), leaves first: each call computes the plain function and leaves the world alone. -/
import Derived.Test.YtohijcgbfcahhaaProg
import Derived.Test.YtohijcgbfcahhaaPlainA
import Derived.WalkKit
import Derived.WalkSpells
import Derived.WalkLawsBesides
import Derived.Lib.Hide
namespace Go.Proofs.Ytohijcgbfcahhaa
open Go.RowKit

theorem between_any (n a b : Nat) (w : World) :
    Calls Try.prog 39 #[.int .u64 n, .int .u64 a, .int .u64 b] w fun e w' => e = .returned (.bool (decide (a ≤ n) && decide (n ≤ b))) ∧ w = w' := by
  go_enter Try.func39, Try.ntmps39
  go_wp2
  all_goals (go_ret; refine ⟨?_, rfl⟩; congr 2; simp; try omega)

theorem low_any (n k : Nat) (w : World) (hn : n < TW) (h1 : k ≤ 32) :
    Calls Try.prog 40 #[.int .u64 n, .int .i64 k] w fun e w' => e = .returned (.int .u64 (n % 2 ^ k : Nat)) ∧ w = w' := by
  have hl := and_low n k hn (by omega)
  go_enter Try.func40, Try.ntmps40
  go_wp2
  go_ret
  exact ⟨by simp at hl ⊢, rfl⟩

theorem birth_any (h : Nat) (w : World) :
    Calls Try.prog 21 #[.int .u64 h] w fun e w' => e = .returned (.int .u64 (h / 65536 : Nat)) ∧ w = w' := by
  go_enter Try.func21, Try.ntmps21
  go_wp2
  go_ret
  exact ⟨by simp, rfl⟩

theorem block_any (h : Nat) (w : World) (hh : h < TW) :
    Calls Try.prog 20 #[.int .u64 h] w fun e w' => e = .returned (.int .u64 (h % 65536 : Nat)) ∧ w = w' := by
  go_enter Try.func20, Try.ntmps20
  go_wp2_with fail
  refine (low_any h 16 _ hh (by omega)).mono ?_; rintro e w' ⟨rfl, rfl⟩
  go_wp2
  go_ret
  exact ⟨by simp, rfl⟩

theorem handle_any (a b : Nat) (w : World) :
    Calls Try.prog 11 #[.int .u64 a, .int .u64 b] w fun e w' => e = .returned (.tuple #[.int .u64 (handleF a b).1, .bool (handleF a b).2]) ∧ w = w' := by
  by_cases h1 : 1 ≤ a ∧ a ≤ 268435455
  · by_cases h2 : 1 ≤ b ∧ b ≤ 65535
    · have Hf := Lib.hid (show handleF a b = (a * 65536 + b, true) from if_pos ⟨h1, h2⟩)
      have Ho := Lib.hid (or16 a b h1.2 h2.2)
      obtain ⟨ha1, ha2⟩ := h1
      obtain ⟨hb1, hb2⟩ := h2
      go_enter Try.func11, Try.ntmps11
      go_wp2_with fail
      refine (between_any a 1 268435455 _).mono ?_; rintro e w' ⟨rfl, rfl⟩
      go_wp2_with fail
      refine (between_any b 1 65535 _).mono ?_; rintro e w' ⟨rfl, rfl⟩
      go_wp2
      go_ret2
      exact ⟨by rw [Hf.out]; simp [Ho.out], rfl⟩
    · have Hf := Lib.hid (show handleF a b = (0, false) from if_neg (fun h => h2 h.2))
      have hb : (decide (1 ≤ b) && decide (b ≤ 65535)) = false := by simp; omega
      have ha : (decide (1 ≤ a) && decide (a ≤ 268435455)) = true := by simp; omega
      go_enter Try.func11, Try.ntmps11
      go_wp2_with fail
      refine (between_any a 1 268435455 _).mono ?_; rintro e w' ⟨rfl, rfl⟩
      rw [ha]
      go_wp2_with fail
      refine (between_any b 1 65535 _).mono ?_; rintro e w' ⟨rfl, rfl⟩
      rw [hb]
      go_wp2
      go_ret2
      exact ⟨by rw [Hf.out]; simp, rfl⟩
  · have Hf := Lib.hid (show handleF a b = (0, false) from if_neg (fun h => h1 h.1))
    have ha : (decide (1 ≤ a) && decide (a ≤ 268435455)) = false := by simp; omega
    go_enter Try.func11, Try.ntmps11
    go_wp2_with fail
    refine (between_any a 1 268435455 _).mono ?_; rintro e w' ⟨rfl, rfl⟩
    rw [ha]
    go_wp2
    go_ret2
    exact ⟨by rw [Hf.out]; simp, rfl⟩

theorem right_any (h : Nat) (w : World) (hh : h < TW) :
    Calls Try.prog 17 #[.int .u64 h] w fun e w' => e = .returned (.bool (rightF h)) ∧ w = w' := by
  go_enter Try.func17, Try.ntmps17
  go_wp2_with fail
  refine (birth_any h _).mono ?_; rintro e w' ⟨rfl, rfl⟩
  go_wp2_with fail
  refine (block_any h _ hh).mono ?_; rintro e w' ⟨rfl, rfl⟩
  go_wp2_with fail
  refine (handle_any (h / 65536) (h % 65536) _).mono ?_; rintro e w' ⟨rfl, rfl⟩
  go_wp2
  go_ret
  exact ⟨rfl, rfl⟩

theorem top_any (h : Nat) (w : World) :
    Calls Try.prog 23 #[.int .u64 h] w fun e w' => e = .returned (.int .u64 (h / 1048576 : Nat)) ∧ w = w' := by
  go_enter Try.func23, Try.ntmps23
  go_wp2
  go_ret
  exact ⟨by simp, rfl⟩

theorem seq_any (h : Nat) (w : World) :
    Calls Try.prog 25 #[.int .u64 h] w fun e w' => e = .returned (.int .u64 (h / 4294967296 : Nat)) ∧ w = w' := by
  go_enter Try.func25, Try.ntmps25
  go_wp2
  go_ret
  exact ⟨by simp, rfl⟩

theorem turn_any (h : Nat) (w : World) (hh : h < TW) :
    Calls Try.prog 22 #[.int .u64 h] w fun e w' => e = .returned (.int .u64 (h % 1048576 : Nat)) ∧ w = w' := by
  go_enter Try.func22, Try.ntmps22
  go_wp2_with fail
  refine (low_any h 20 _ hh (by omega)).mono ?_; rintro e w' ⟨rfl, rfl⟩
  go_wp2
  go_ret
  exact ⟨by simp, rfl⟩

theorem body_any (h : Nat) (w : World) (hh : h < TW) :
    Calls Try.prog 24 #[.int .u64 h] w fun e w' => e = .returned (.int .u64 (h % 4294967296 : Nat)) ∧ w = w' := by
  go_enter Try.func24, Try.ntmps24
  go_wp2_with fail
  refine (low_any h 32 _ hh (by omega)).mono ?_; rintro e w' ⟨rfl, rfl⟩
  go_wp2
  go_ret
  exact ⟨by simp, rfl⟩

theorem root_any (h t : Nat) (w : World) (hh : h < TW) :
    Calls Try.prog 12 #[.int .u64 h, .int .u64 t] w fun e w' => e = .returned (.tuple #[.int .u64 (rootF h t).1, .bool (rootF h t).2]) ∧ w = w' := by
  by_cases h0 : h = 0
  · subst h0
    by_cases h2 : t ≤ 1048575
    · have Hf := Lib.hid (show rootF 0 t = (0 * 1048576 + t, true) from if_neg (by omega))
      have Ho := Lib.hid (or20 0 t (by omega) h2)
      go_enter Try.func12, Try.ntmps12
      go_wp2
      go_ret2
      exact ⟨by rw [Hf.out]; have := Ho.out; simp at this; simp [this], rfl⟩
    · have Hf := Lib.hid (show rootF 0 t = (0, false) from if_pos (by omega))
      go_enter Try.func12, Try.ntmps12
      go_wp2
      go_ret2
      exact ⟨by rw [Hf.out]; simp, rfl⟩
  · have h1 : ((h : Int) != 0) = true := by rw [bne_iff_ne]; omega
    cases hr : rightF h
    · have Hf := Lib.hid (show rootF h t = (0, false) from if_pos (.inl ⟨h0, hr⟩))
      have Hr := Lib.hid hr; clear hr
      go_enter Try.func12, Try.ntmps12
      go_wp2_with fail
      refine (right_any h _ hh).mono ?_; rintro e w' ⟨rfl, rfl⟩
      rw [Hr.out]
      go_wp2
      go_ret2
      exact ⟨by rw [Hf.out]; simp, rfl⟩
    · have hle := rightF_le hr
      by_cases h2 : t ≤ 1048575
      · have Hf := Lib.hid (show rootF h t = (h * 1048576 + t, true) from if_neg (by rw [hr]; rintro (⟨_, h⟩ | h); (· cases h); (· omega)))
        have Ho := Lib.hid (or20 h t hle h2)
        have Hr := Lib.hid hr; clear hr
        go_enter Try.func12, Try.ntmps12
        go_wp2_with fail
        refine (right_any h _ hh).mono ?_; rintro e w' ⟨rfl, rfl⟩
        rw [Hr.out]
        go_wp2
        go_ret2
        exact ⟨by rw [Hf.out]; simp [Ho.out], rfl⟩
      · have Hf := Lib.hid (show rootF h t = (0, false) from if_pos (by omega))
        have Hr := Lib.hid hr; clear hr
        go_enter Try.func12, Try.ntmps12
        go_wp2_with fail
        refine (right_any h _ hh).mono ?_; rintro e w' ⟨rfl, rfl⟩
        rw [Hr.out]
        go_wp2
        go_ret2
        exact ⟨by rw [Hf.out]; simp, rfl⟩

theorem next_any (r : Nat) (w : World) (hr : r < TW) :
    Calls Try.prog 19 #[.int .u64 r] w fun e w' => e = .returned (.tuple #[.int .u64 (nextF r).1, .bool (nextF r).2]) ∧ w = w' := by
  have hd : r / 1048576 < TW := by omega
  have hm : r % 1048576 < 1048576 := by omega
  go_enter Try.func19, Try.ntmps19
  go_wp2_with fail
  refine (top_any r _).mono ?_; rintro e w' ⟨rfl, rfl⟩
  go_wp2_with fail
  refine (turn_any r _ hr).mono ?_; rintro e w' ⟨rfl, rfl⟩
  go_wp2_with fail
  refine (root_any (r / 1048576) (r % 1048576 + 1) _ hd).mono ?_; rintro e w' ⟨rfl, rfl⟩
  go_wp2
  go_ret2
  exact ⟨rfl, rfl⟩

theorem note_any (s b : Nat) (w : World) :
    Calls Try.prog 13 #[.int .u64 s, .int .u64 b] w fun e w' => e = .returned (.tuple #[.int .u64 (noteF s b).1, .bool (noteF s b).2]) ∧ w = w' := by
  by_cases h1 : s ≤ 4294967295
  · by_cases h2 : b ≤ 4294967295
    · have Hf := Lib.hid (show noteF s b = (s * 4294967296 + b, true) from if_neg (by omega))
      have Ho := Lib.hid (or32 s b h1 h2)
      go_enter Try.func13, Try.ntmps13
      go_wp2
      go_ret2
      exact ⟨by rw [Hf.out]; simp [Ho.out], rfl⟩
    · have Hf := Lib.hid (show noteF s b = (0, false) from if_pos (by omega))
      go_enter Try.func13, Try.ntmps13
      go_wp2
      go_ret2
      exact ⟨by rw [Hf.out]; simp, rfl⟩
  · have Hf := Lib.hid (show noteF s b = (0, false) from if_pos (by omega))
    go_enter Try.func13, Try.ntmps13
    go_wp2
    go_ret2
    exact ⟨by rw [Hf.out]; simp, rfl⟩
end Go.Proofs.Ytohijcgbfcahhaa
