/- Contracts of package dir (layer 10) and of the document's functions: what lies in no memory. -/
import Derived.Test.YtnfpkadepomjjaaProg
import Derived.WalkKit
import Derived.WalkSpells
import Derived.WalkLawsBesides
import Derived.Lib.Hide
import Derived.BigQuiet
import Derived.Deep.Light
import Derived.Test.YtnfpkadepomjjaaBasePl
set_option linter.all false
namespace Go.Proofs.Ytnfpkadepomjjaa
open Go.RowKit

theorem isSegment_any (g : Int) (w : World) :
    Calls Try.prog 229 #[.int .i64 g] w fun e w' => e = .returned (.bool (decide (0 ≤ g) && decide (g < 8))) ∧ w = w' := by
  go_enter Try.func229, Try.ntmps229
  go_wp2
  all_goals (go_ret; refine ⟨?_, rfl⟩; congr 2; simp; try omega)

theorem segment_no (s : Int) (w : World) (h : s < 0 ∨ 255 ≤ s) :
    Calls Try.prog 166 #[.int .i64 s] w fun e w' => e = .returned (.tuple #[.int .i64 0, .int .i64 0, .bool false]) ∧ w = w' := by
  by_cases h0 : s < 0
  · go_enter Try.func166, Try.ntmps166
    go_wp2
    go_ret3
    exact ⟨rfl, rfl⟩
  · have h1 : 255 ≤ s := by omega
    go_enter Try.func166, Try.ntmps166
    go_wp2
    go_ret3
    exact ⟨rfl, rfl⟩

theorem segment_yes (s : Nat) (w : World) (h : s ≤ 254) :
    Calls Try.prog 166 #[.int .i64 s] w fun e w' => e = .returned (.tuple #[.int .i64 (segG s), .int .i64 (segO s), .bool true]) ∧ ∃ n, w' = w.drewN n := by
  obtain ⟨f1, f2, f3⟩ := seg_facts h
  go_enter Try.func166, Try.ntmps166
  go_wp2
  go_loop [5] (fun i => ∃ k : Nat, k ≤ segG s ∧ i = .int .i64 k) (fun i => segG s - (intOf i).toNat)
  case atStart => exact ⟨0, Nat.zero_le _, rfl⟩
  case round =>
    obtain ⟨k, hk, rfl⟩ := hrel
    obtain ⟨p1, p2⟩ := pow_int (k := k) (by omega)
    by_cases hlt : k < segG s
    · have hm : 2 * (2 : Int) ^ k ≤ (s : Int) + 1 := by rw [pow_cast]; have := seg_more hlt; omega
      go_wp2
      go_round
      case rel => exact ⟨k + 1, by omega, by go_num⟩
      case measure => simp [intOf]; omega
    · have hm : (s : Int) + 1 < 2 * (2 : Int) ^ k := seg_less h (by omega)
      obtain rfl : k = segG s := by omega
      go_wp2
      go_quiet (fail)
      go_wp2
      go_ret3
      refine ⟨?_, nq, rfl⟩
      have := pow_cast (segG s)
      have e : ((s : Int) + 1 - 2 ^ segG s) = (segO s : Int) := by unfold segO; omega
      simp [e]
end Go.Proofs.Ytnfpkadepomjjaa
