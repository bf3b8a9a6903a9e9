/- The statements of layer 1: the document's functions compute the same plain functions; the calls of 'first' answer true. -/
import Derived.Test.YtohijcgbfcahhaaFieldsA
namespace Go.Proofs.Ytohijcgbfcahhaa
open Go.RowKit

theorem ref_handle_any (a b : Nat) (w : World) :
    Calls Try.prog 14 #[.int .u64 a, .int .u64 b] w fun e w' => e = .returned (.int .u64 (handleF a b).1) ∧ w = w' := by
  by_cases h1 : 1 ≤ a
  · by_cases h2 : a ≤ 268435455
    · by_cases h3 : 1 ≤ b
      · by_cases h4 : b ≤ 65535
        · have Hf := Lib.hid (show handleF a b = (a * 65536 + b, true) from if_pos ⟨⟨h1, h2⟩, h3, h4⟩)
          go_enter Try.func14, Try.ntmps14
          go_wp2
          go_ret
          exact ⟨by rw [Hf.out]; simp, rfl⟩
        · have Hf := Lib.hid (show handleF a b = (0, false) from if_neg (by omega))
          go_enter Try.func14, Try.ntmps14
          go_wp2
          go_ret
          exact ⟨by rw [Hf.out]; simp, rfl⟩
      · have Hf := Lib.hid (show handleF a b = (0, false) from if_neg (by omega))
        go_enter Try.func14, Try.ntmps14
        go_wp2
        go_ret
        exact ⟨by rw [Hf.out]; simp, rfl⟩
    · have Hf := Lib.hid (show handleF a b = (0, false) from if_neg (by omega))
      go_enter Try.func14, Try.ntmps14
      go_wp2
      go_ret
      exact ⟨by rw [Hf.out]; simp, rfl⟩
  · have Hf := Lib.hid (show handleF a b = (0, false) from if_neg (by omega))
    go_enter Try.func14, Try.ntmps14
    go_wp2
    go_ret
    exact ⟨by rw [Hf.out]; simp, rfl⟩

theorem ref_right_any (h : Nat) (w : World) (hh : h < TW) :
    Calls Try.prog 18 #[.int .u64 h] w fun e w' => e = .returned (.bool (rightF h)) ∧ w = w' := by
  have Hr : Hid (rightF h = (decide (1 ≤ h / 65536) && decide (h / 65536 ≤ 268435455) && decide (1 ≤ h % 65536))) := by
    show _ = _
    unfold rightF handleF
    split
    · simp; omega
    · simp; omega
  unfold TW at hh
  go_enter Try.func18, Try.ntmps18
  go_wp2
  all_goals (go_ret; refine ⟨?_, rfl⟩; rw [Hr.out]; congr 2; simp; try first | omega | (rw [Bool.eq_iff_iff]; simp; omega))

theorem ref_note_any (s b : Nat) (w : World) :
    Calls Try.prog 16 #[.int .u64 s, .int .u64 b] w fun e w' => e = .returned (.tuple #[.int .u64 (noteF s b).1, .bool (noteF s b).2]) ∧ w = w' := by
  by_cases h1 : s ≤ 4294967295
  · by_cases h2 : b ≤ 4294967295
    · have Hf := Lib.hid (show noteF s b = (s * 4294967296 + b, true) from if_neg (by omega))
      go_enter Try.func16, Try.ntmps16
      go_wp2
      go_ret2
      exact ⟨by rw [Hf.out]; simp, rfl⟩
    · have Hf := Lib.hid (show noteF s b = (0, false) from if_pos (by omega))
      go_enter Try.func16, Try.ntmps16
      go_wp2
      go_ret2
      exact ⟨by rw [Hf.out]; simp, rfl⟩
  · have Hf := Lib.hid (show noteF s b = (0, false) from if_pos (by omega))
    go_enter Try.func16, Try.ntmps16
    go_wp2
    go_ret2
    exact ⟨by rw [Hf.out]; simp, rfl⟩

theorem ref_root_any (h t : Nat) (w : World) (hh : h < TW) :
    Calls Try.prog 15 #[.int .u64 h, .int .u64 t] w fun e w' => e = .returned (.tuple #[.int .u64 (rootF h t).1, .bool (rootF h t).2]) ∧ w = w' := by
  by_cases h0 : 0 < h
  · cases hr : rightF h
    · have Hf := Lib.hid (show rootF h t = (0, false) from if_pos (.inl ⟨by omega, hr⟩))
      have Hr := Lib.hid hr; clear hr
      go_enter Try.func15, Try.ntmps15
      go_wp2_with fail
      refine (ref_right_any h _ hh).mono ?_; rintro e w' ⟨rfl, rfl⟩
      rw [Hr.out]
      go_wp2
      go_ret2
      exact ⟨by rw [Hf.out]; simp, rfl⟩
    · have hle := rightF_le hr
      by_cases h2 : t ≤ 1048575
      · have Hf := Lib.hid (show rootF h t = (h * 1048576 + t, true) from if_neg (by rw [hr]; rintro (⟨_, h⟩ | h); (· cases h); (· omega)))
        have Hr := Lib.hid hr; clear hr
        go_enter Try.func15, Try.ntmps15
        go_wp2_with fail
        refine (ref_right_any h _ hh).mono ?_; rintro e w' ⟨rfl, rfl⟩
        rw [Hr.out]
        go_wp2
        go_ret2
        exact ⟨by rw [Hf.out]; simp, rfl⟩
      · have Hf := Lib.hid (show rootF h t = (0, false) from if_pos (by omega))
        have Hr := Lib.hid hr; clear hr
        go_enter Try.func15, Try.ntmps15
        go_wp2_with fail
        refine (ref_right_any h _ hh).mono ?_; rintro e w' ⟨rfl, rfl⟩
        rw [Hr.out]
        go_wp2
        go_ret2
        exact ⟨by rw [Hf.out]; simp, rfl⟩
  · obtain rfl : h = 0 := by omega
    by_cases h2 : t ≤ 1048575
    · have Hf := Lib.hid (show rootF 0 t = (0 * 1048576 + t, true) from if_neg (by omega))
      go_enter Try.func15, Try.ntmps15
      go_wp2
      go_ret2
      exact ⟨by rw [Hf.out]; simp, rfl⟩
    · have Hf := Lib.hid (show rootF 0 t = (0, false) from if_pos (by omega))
      go_enter Try.func15, Try.ntmps15
      go_wp2
      go_ret2
      exact ⟨by rw [Hf.out]; simp, rfl⟩

theorem first01 (w : World) :
    Calls Try.prog 10 #[] w fun e w' => e = .returned (.bool true) ∧ w = w' := by
  go_enter Try.func10, Try.ntmps10
  go_wp2_with fail
  refine (handle_any 1 1 _).mono ?_; rintro e w' ⟨rfl, rfl⟩
  rw [show handleF 1 1 = (65537, true) from by decide]
  go_wp2_with fail
  refine (root_any 65537 5 _ (by unfold TW; omega)).mono ?_; rintro e w' ⟨rfl, rfl⟩
  rw [show rootF 65537 5 = (68720525317, true) from by decide]
  go_wp2_with fail
  refine (next_any 68720525317 _ (by unfold TW; omega)).mono ?_; rintro e w' ⟨rfl, rfl⟩
  rw [show nextF 68720525317 = (68720525318, true) from by decide]
  go_wp2_with fail
  refine (note_any 7 9 _).mono ?_; rintro e w' ⟨rfl, rfl⟩
  rw [show noteF 7 9 = (30064771081, true) from by decide]
  go_wp2_with fail
  refine (handle_any 0 1 _).mono ?_; rintro e w' ⟨rfl, rfl⟩
  rw [show handleF 0 1 = (0, false) from by decide]
  go_wp2_with fail
  refine (top_any 68720525318 _).mono ?_; rintro e w' ⟨rfl, rfl⟩
  go_wp2_with fail
  refine (turn_any 68720525318 _ (by unfold TW; omega)).mono ?_; rintro e w' ⟨rfl, rfl⟩
  go_wp2_with fail
  refine (seq_any 30064771081 _).mono ?_; rintro e w' ⟨rfl, rfl⟩
  go_wp2_with fail
  refine (body_any 30064771081 _ (by unfold TW; omega)).mono ?_; rintro e w' ⟨rfl, rfl⟩
  go_wp2_with fail
  refine (right_any 65537 _ (by unfold TW; omega)).mono ?_; rintro e w' ⟨rfl, rfl⟩
  rw [show rightF 65537 = true from by decide]
  go_wp2_with fail
  refine (right_any 0 _ (by unfold TW; omega)).mono ?_; rintro e w' ⟨rfl, rfl⟩
  rw [show rightF 0 = false from by decide]
  go_wp2_with fail
  refine (birth_any 65537 _).mono ?_; rintro e w' ⟨rfl, rfl⟩
  go_wp2_with fail
  refine (block_any 65537 _ (by unfold TW; omega)).mono ?_; rintro e w' ⟨rfl, rfl⟩
  go_wp2
  go_ret
  exact ⟨rfl, rfl⟩
end Go.Proofs.Ytohijcgbfcahhaa
