/- Contracts of package dir (layer 10): what answers an address, a size, a slot; and the document's. -/
import Derived.Below
import Derived.WalkSmall
import Derived.Test.YtcmoffcaiepgbaaDirA
set_option linter.all false
namespace Go.Proofs.Ytcmoffcaiepgbaa
open Go.RowKit

theorem counter_yes (sg g n : Nat) (w : World) (h : g ≤ 7) (h1 : 1 ≤ n) (h2 : n < 2 * 2 ^ g) :
    Calls Try.prog 141 #[.int .u64 sg, .int .i64 g, .int .i64 n] w fun e w' => e = .returned (.tuple #[.agg #[.int .u64 sg, .int .i64 (5 * 2 ^ g + n : Nat)], .bool true]) ∧ Below w.heap.size w w' := by
  obtain ⟨p1, p2⟩ := pow_int (k := g) (by omega)
  have hb : (decide (0 ≤ (g : Int)) && decide ((g : Int) < 8)) = true := by simp; omega
  have h3 : (n : Int) < 2 * (2 : Int) ^ g := by rw [pow_cast]; omega
  clear h2
  go_enter Try.func141, Try.ntmps141
  go_wp2_with fail
  refine (isSegment_any g _).mono ?_; rintro e w' ⟨rfl, rfl⟩
  rw [hb]
  go_wp2
  exact bodyPost_ret (v := .tuple #[.agg #[.int .u64 sg, .int .i64 (5 * 2 ^ g + n)], .bool true]) (by simp [results, Try.results141, go_sem]) rfl ⟨by simp, (by repeat first | exact Below.refl _ _ | (refine Below.alloc ?_ (by simp) _) | (refine Below.setCell ?_ (by simp) _) | refine below_drewN ?_ _)⟩

theorem counter_none (sg : Nat) (g n : Int) (w : World) (h : g < 0 ∨ 8 ≤ g) :
    Calls Try.prog 141 #[.int .u64 sg, .int .i64 g, .int .i64 n] w fun e w' => e = .returned (.tuple #[.agg #[.int .u64 0, .int .i64 0], .bool false]) ∧ Below w.heap.size w w' := by
  have hb : (decide (0 ≤ g) && decide (g < 8)) = false := by simp; omega
  go_enter Try.func141, Try.ntmps141
  go_wp2_with fail
  refine (isSegment_any g _).mono ?_; rintro e w' ⟨rfl, rfl⟩
  rw [hb]
  go_wp2
  exact bodyPost_ret (v := .tuple #[.agg #[.int .u64 0, .int .i64 0], .bool false]) (by simp [results, Try.results141, go_sem]) rfl ⟨rfl, (by repeat first | exact Below.refl _ _ | (refine Below.alloc ?_ (by simp) _) | (refine Below.setCell ?_ (by simp) _) | refine below_drewN ?_ _)⟩

theorem counter_bad (sg g : Nat) (n : Int) (w : World) (h : g ≤ 7) (hn : n < 1 ∨ 2 * 2 ^ g ≤ n) :
    Calls Try.prog 141 #[.int .u64 sg, .int .i64 g, .int .i64 n] w fun e w' => e = .returned (.tuple #[.agg #[.int .u64 0, .int .i64 0], .bool false]) ∧ Below w.heap.size w w' := by
  obtain ⟨p1, p2⟩ := pow_int (k := g) (by omega)
  have hb : (decide (0 ≤ (g : Int)) && decide ((g : Int) < 8)) = true := by simp; omega
  by_cases h0 : n < 1
  · clear hn
    go_enter Try.func141, Try.ntmps141
    go_wp2_with fail
    refine (isSegment_any g _).mono ?_; rintro e w' ⟨rfl, rfl⟩
    rw [hb]
    go_wp2
    exact bodyPost_ret (v := .tuple #[.agg #[.int .u64 0, .int .i64 0], .bool false]) (by simp [results, Try.results141, go_sem]) rfl ⟨rfl, (by repeat first | exact Below.refl _ _ | (refine Below.alloc ?_ (by simp) _) | (refine Below.setCell ?_ (by simp) _) | refine below_drewN ?_ _)⟩
  · have h3 : 2 * (2 : Int) ^ g ≤ n := by omega
    clear hn
    go_enter Try.func141, Try.ntmps141
    go_wp2_with fail
    refine (isSegment_any g _).mono ?_; rintro e w' ⟨rfl, rfl⟩
    rw [hb]
    go_wp2
    exact bodyPost_ret (v := .tuple #[.agg #[.int .u64 0, .int .i64 0], .bool false]) (by simp [results, Try.results141, go_sem]) rfl ⟨rfl, (by repeat first | exact Below.refl _ _ | (refine Below.alloc ?_ (by simp) _) | (refine Below.setCell ?_ (by simp) _) | refine below_drewN ?_ _)⟩

theorem pow_any (g : Nat) (w : World) (h : g ≤ 8) :
    Calls Try.prog 77 #[.int .i64 g] w fun e w' => e = .returned (.int .i64 (2 ^ g : Nat)) ∧ w = w' := by
  go_enter Try.func77, Try.ntmps77
  go_wp2
  go_loop [3, 4] (fun n i => ∃ k : Nat, k ≤ g ∧ i = .int .i64 k ∧ n = .int .i64 ((2 : Int) ^ k)) (fun _ i => g - (intOf i).toNat)
  case atStart => exact ⟨0, Nat.zero_le _, rfl, rfl⟩
  case round =>
    obtain ⟨k, hk, rfl, rfl⟩ := hrel
    by_cases hlt : k < g
    · obtain ⟨p1, p2⟩ := pow_int (k := k) (by omega)
      go_wp2
      go_round
      case rel => exact ⟨k + 1, by omega, by go_num, by rw [Int.pow_succ]; go_num⟩
      case measure => simp [intOf]; omega
    · obtain rfl : k = g := by omega
      go_wp2
      go_ret
      exact ⟨by simp, rfl⟩

theorem ref_counter (sg g n : Nat) (w : World) (h : g ≤ 7) (h2 : n < 2 * 2 ^ g) :
    Calls Try.prog 22 #[.int .u64 sg, .int .i64 g, .int .i64 n] w fun e w' => e = .returned (.agg #[.int .u64 sg, .int .i64 (5 * 2 ^ g + n : Nat)]) ∧ Below w.heap.size w w' := by
  obtain ⟨p1, p2⟩ := pow_int (k := g) (by omega)
  have h3 : (n : Int) < 2 * (2 : Int) ^ g := by rw [pow_cast]; omega
  clear h2
  go_enter Try.func22, Try.ntmps22
  go_wp2_with fail
  refine (pow_any g _ (by omega)).mono ?_; rintro e w' ⟨rfl, rfl⟩
  go_wp2
  exact bodyPost_ret (v := .agg #[.int .u64 sg, .int .i64 (5 * (2 : Int) ^ g + (n : Int))]) (by simp [results, Try.results22, go_sem]) rfl ⟨by simp, (by repeat first | exact Below.refl _ _ | (refine Below.alloc ?_ (by simp) _) | (refine Below.setCell ?_ (by simp) _) | refine below_drewN ?_ _)⟩
end Go.Proofs.Ytcmoffcaiepgbaa
