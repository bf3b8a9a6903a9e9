/- FieldsTurns: the walk. A root's next turns are all roots of its handle, each another one, till there is none. -/
import Derived.Test.YtohijcgbfcahhaaFieldsB
import Derived.RowKit3
namespace Go.Proofs.Ytohijcgbfcahhaa
open Go.RowKit

theorem rootF_yes {h t : Nat} (hr : (rootF h t).2 = true) : t ≤ 1048575 ∧ h ≤ 17592186044415 ∧ rootF h t = (h * 1048576 + t, true) ∧ nextF (h * 1048576 + t) = rootF h (t + 1) := by
  unfold rootF at hr
  split at hr
  · cases hr
  · rename_i hc
    have hle : h ≤ 17592186044415 := by
      by_cases h0 : h = 0
      · omega
      · cases hr' : rightF h
        · exact absurd (.inl ⟨h0, hr'⟩) hc
        · exact rightF_le hr'
    have ht : t ≤ 1048575 := by
      rcases Nat.lt_or_ge 1048575 t with h1 | h1
      · exact absurd (.inr h1) hc
      · exact h1
    refine ⟨ht, hle, if_neg hc, ?_⟩
    unfold nextF
    rw [show (h * 1048576 + t) / 1048576 = h from by omega, show (h * 1048576 + t) % 1048576 = t from by omega]

theorem rootF_no {h t : Nat} (hr : (rootF h t).2 = false) : rootF h t = (0, false) := by
  unfold rootF at hr ⊢
  split
  · rfl
  · rename_i hc; rw [if_neg hc] at hr; cases hr

theorem rootF_more {h t : Nat} (hr : (rootF h t).2 = true) : (rootF h (t + 1)).2 = decide (t < 1048575) := by
  unfold rootF at hr ⊢
  split at hr
  · cases hr
  · rename_i hc
    by_cases ht : t < 1048575
    · rw [if_neg (by intro h; rcases h with h | h; (· exact hc (.inl h)); (· omega))]; simp [ht]
    · rw [if_pos (.inr (by omega))]; simp [ht]

set_option maxRecDepth 100000 in
theorem fieldsTurns_nat (h t n : Nat) (w : World) (hh : h < TW) (hn : n ≤ 255) :
    Calls Try.prog 6 #[.int .u64 h, .int .u64 t, .int .u8 n] w fun e w' => e = .returned (.bool true) ∧ w = w' := by
  go_enter Try.func6, Try.ntmps6
  go_wp2_with fail
  refine (first01 _).mono ?_; rintro e w' ⟨rfl, rfl⟩
  go_wp2_with fail
  refine (root_any h t _ hh).mono ?_; rintro e w' ⟨rfl, rfl⟩
  go_wp2
  go_loop [7, 8, 22] (fun r ok i => ∃ k : Nat, k ≤ n ∧ i = .int .i64 k ∧ r = .int .u64 (rootF h (t + k)).1 ∧ ok = .bool (rootF h (t + k)).2) (fun _ _ i => n - (intOf i).toNat)
  case atStart => exact ⟨0, Nat.zero_le _, rfl, rfl, rfl⟩
  case round =>
    obtain ⟨k, hk, rfl, rfl, rfl⟩ := hrel
    by_cases hlt : k < n
    · cases hr : (rootF h (t + k)).2
      · have H0 := Lib.hid (rootF_no hr)
        have Hr := Lib.hid hr; clear hr
        rw [H0.out]
        go_wp2
        go_ret
        exact ⟨by simp, rfl⟩
      · obtain ⟨g1, g2, g3, g4⟩ := rootF_yes hr
        have H5 := Lib.hid (rootF_more hr)
        obtain ⟨r, er⟩ : ∃ r, r = h * 1048576 + (t + k) := ⟨_, rfl⟩
        rw [← er] at g3 g4
        have hr1 : r < TW := by unfold TW; omega
        have H6 := Lib.hid (show r / 1048576 = h by omega)
        have H7 := Lib.hid (show r % 1048576 = t + k by omega)
        have H3 := Lib.hid g3
        have H4 := Lib.hid g4
        have Q3 : Hid (t + k < 1048575 → rootF h (t + k + 1) = (r + 1, true)) := by
          intro hm
          have e1 : (rootF h (t + k + 1)).2 = true := by rw [H5.out]; simp [hm]
          rw [(rootF_yes e1).2.2.1]; congr 1; omega
        have Q4 : Hid (¬ t + k < 1048575 → rootF h (t + k + 1) = (0, false)) := by
          intro hm
          exact rootF_no (by rw [H5.out]; simp [hm])
        have hr2 : t + k < 1048575 → r + 1 < TW := by unfold TW; omega
        clear hr g2 g3 g4 er
        rw [H3.out]
        go_wp2_with fail
        refine (top_any r _).mono ?_; rintro e w' ⟨rfl, rfl⟩
        rw [H6.out]
        go_wp2_with fail
        refine (turn_any r _ hr1).mono ?_; rintro e w' ⟨rfl, rfl⟩
        rw [H7.out]
        go_wp2_with fail
        refine (next_any r _ hr1).mono ?_; rintro e w' ⟨rfl, rfl⟩
        rw [H4.out]
        by_cases hm : t + k < 1048575
        · rw [Q3.out hm]
          have hd : decide ((t : Int) + (k : Int) < 1048575) = true := by simp; omega
          have hx : IntKind.u64.wrap ((r : Int) + 1) = (r : Int) + 1 := by have := hr2 hm; unfold TW at this; exact IntWalk.u64_in _ (by omega)
          clear hr2
          go_wp2
          go_round
          case rel => exact ⟨k + 1, by omega, by go_num, by rw [show t + (k + 1) = t + k + 1 from by omega, Q3.out hm]; go_num, by rw [show t + (k + 1) = t + k + 1 from by omega, Q3.out hm]⟩
          case measure => simp [intOf]; omega
        · rw [Q4.out hm]
          have hd : decide ((t : Int) + (k : Int) < 1048575) = false := by simp; omega
          clear hr2
          go_wp2
          go_round
          case rel => exact ⟨k + 1, by omega, by go_num, by rw [show t + (k + 1) = t + k + 1 from by omega, Q4.out hm]; go_num, by rw [show t + (k + 1) = t + k + 1 from by omega, Q4.out hm]⟩
          case measure => simp [intOf]; omega
    · go_wp2
      go_ret
      exact ⟨rfl, rfl⟩
end Go.Proofs.Ytohijcgbfcahhaa
