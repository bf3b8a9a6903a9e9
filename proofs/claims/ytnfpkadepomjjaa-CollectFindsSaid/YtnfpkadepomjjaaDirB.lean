/- Contracts of package dir (layer 10): what answers an address, a size, a slot; and the document's. -/
import Derived.Below
import Derived.WalkSmall
import Derived.Test.YtnfpkadepomjjaaDirA
set_option linter.all false
namespace Go.Proofs.Ytnfpkadepomjjaa
open Go.RowKit

theorem size_yes (k : Nat) (w : World) (h : k ≤ 7) :
    Calls Try.prog 232 #[.int .i64 k] w fun e w' => e = .returned (.int .i64 (7 * 2 ^ k : Nat)) ∧ w = w' := by
  obtain ⟨p1, p2⟩ := pow_int (k := k) (by omega)
  have hb : (decide (0 ≤ (k : Int)) && decide ((k : Int) < 8)) = true := by simp; omega
  go_enter Try.func232, Try.ntmps232
  go_wp2_with fail
  refine (isSegment_any k _).mono ?_; rintro e w' ⟨rfl, rfl⟩
  rw [hb]
  go_wp2
  go_ret
  exact ⟨by simp, rfl⟩
theorem size_no (g : Int) (w : World) (h : g < 0 ∨ 8 ≤ g) :
    Calls Try.prog 232 #[.int .i64 g] w fun e w' => e = .returned (.int .i64 0) ∧ w = w' := by
  have hb : (decide (0 ≤ g) && decide (g < 8)) = false := by simp; omega
  go_enter Try.func232, Try.ntmps232
  go_wp2_with fail
  refine (isSegment_any g _).mono ?_; rintro e w' ⟨rfl, rfl⟩
  rw [hb]
  go_wp2
  go_ret
  exact ⟨rfl, rfl⟩

theorem fixed_any (g : Int) (w : World) :
    Calls Try.prog 162 #[.int .i64 g] w fun e w' => e = .returned (.agg #[.int .u64 0, .int .i64 (1 + max 0 (min g 7))]) ∧ Below w.heap.size w w' := by
  go_enter Try.func162, Try.ntmps162
  go_wp2
  · exact bodyPost_ret (v := .agg #[.int .u64 0, .int .i64 1]) (by simp [results, Try.results162, go_sem]) rfl ⟨by rw [show (1 + max 0 (min g 7)) = 1 by omega], (by repeat first | exact Below.refl _ _ | (refine Below.alloc ?_ (by simp) _) | (refine Below.setCell ?_ (by simp) _) | refine below_drewN ?_ _)⟩
  · exact bodyPost_ret (v := .agg #[.int .u64 0, .int .i64 8]) (by simp [results, Try.results162, go_sem]) rfl ⟨by rw [show (1 + max 0 (min g 7)) = 8 by omega], (by repeat first | exact Below.refl _ _ | (refine Below.alloc ?_ (by simp) _) | (refine Below.setCell ?_ (by simp) _) | refine below_drewN ?_ _)⟩
  · exact bodyPost_ret (v := .agg #[.int .u64 0, .int .i64 (1 + g)]) (by simp [results, Try.results162, go_sem]) rfl ⟨by rw [show (1 + max 0 (min g 7)) = 1 + g by omega], (by repeat first | exact Below.refl _ _ | (refine Below.alloc ?_ (by simp) _) | (refine Below.setCell ?_ (by simp) _) | refine below_drewN ?_ _)⟩

theorem word_none (sg : Nat) (s f : Int) (w : World) (h : s < 0 ∨ 255 ≤ s) :
    Calls Try.prog 212 #[.agg #[.int .u64 sg, .int .i64 s], .int .i64 f] w fun e w' => e = .returned (.tuple #[.agg #[.int .u64 0, .int .i64 0], .bool false]) ∧ Below w.heap.size w w' := by
  go_enter Try.func212, Try.ntmps212
  go_wp2_with fail
  refine (segment_no s _ h).mono ?_; rintro e w' ⟨rfl, rfl⟩
  go_wp2
  exact bodyPost_ret (v := .tuple #[.agg #[.int .u64 0, .int .i64 0], .bool false]) (by simp [results, Try.results212, go_sem]) rfl ⟨rfl, (by repeat first | exact Below.refl _ _ | (refine Below.alloc ?_ (by simp) _) | (refine Below.setCell ?_ (by simp) _) | refine below_drewN ?_ _)⟩

theorem word_yes (sg s f : Nat) (w : World) (h : s ≤ 254) (hf : f ≤ 4) :
    Calls Try.prog 212 #[.agg #[.int .u64 sg, .int .i64 s], .int .i64 f] w fun e w' => e = .returned (.tuple #[.agg #[.int .u64 sg, .int .i64 (5 * segO s + f : Nat)], .bool true]) ∧ Below w.heap.size w w' := by
  have ho : segO s ≤ 255 := Nat.le_trans (Nat.sub_le _ _) (by omega)
  go_enter Try.func212, Try.ntmps212
  go_wp2_with fail
  refine (segment_yes s _ h).mono ?_; rintro e w' ⟨rfl, n, rfl⟩
  go_wp2
  exact bodyPost_ret (v := .tuple #[.agg #[.int .u64 sg, .int .i64 (5 * segO s + f)], .bool true]) (by simp [results, Try.results212, go_sem]) rfl ⟨by simp, (by repeat first | exact Below.refl _ _ | (refine Below.alloc ?_ (by simp) _) | (refine Below.setCell ?_ (by simp) _) | refine below_drewN ?_ _)⟩

theorem word_bad (sg s : Nat) (f : Int) (w : World) (h : s ≤ 254) (hf : f < 0 ∨ 5 ≤ f) :
    Calls Try.prog 212 #[.agg #[.int .u64 sg, .int .i64 s], .int .i64 f] w fun e w' => e = .returned (.tuple #[.agg #[.int .u64 0, .int .i64 0], .bool false]) ∧ Below w.heap.size w w' := by
  by_cases h0 : f < 0
  · go_enter Try.func212, Try.ntmps212
    go_wp2_with fail
    refine (segment_yes s _ h).mono ?_; rintro e w' ⟨rfl, n, rfl⟩
    go_wp2
    exact bodyPost_ret (v := .tuple #[.agg #[.int .u64 0, .int .i64 0], .bool false]) (by simp [results, Try.results212, go_sem]) rfl ⟨rfl, (by repeat first | exact Below.refl _ _ | (refine Below.alloc ?_ (by simp) _) | (refine Below.setCell ?_ (by simp) _) | refine below_drewN ?_ _)⟩
  · have h1 : 5 ≤ f := by omega
    go_enter Try.func212, Try.ntmps212
    go_wp2_with fail
    refine (segment_yes s _ h).mono ?_; rintro e w' ⟨rfl, n, rfl⟩
    go_wp2
    exact bodyPost_ret (v := .tuple #[.agg #[.int .u64 0, .int .i64 0], .bool false]) (by simp [results, Try.results212, go_sem]) rfl ⟨rfl, (by repeat first | exact Below.refl _ _ | (refine Below.alloc ?_ (by simp) _) | (refine Below.setCell ?_ (by simp) _) | refine below_drewN ?_ _)⟩

theorem counter_yes (sg g n : Nat) (w : World) (h : g ≤ 7) (h1 : 1 ≤ n) (h2 : n < 2 * 2 ^ g) :
    Calls Try.prog 205 #[.int .u64 sg, .int .i64 g, .int .i64 n] w fun e w' => e = .returned (.tuple #[.agg #[.int .u64 sg, .int .i64 (5 * 2 ^ g + n : Nat)], .bool true]) ∧ Below w.heap.size w w' := by
  obtain ⟨p1, p2⟩ := pow_int (k := g) (by omega)
  have hb : (decide (0 ≤ (g : Int)) && decide ((g : Int) < 8)) = true := by simp; omega
  have h3 : (n : Int) < 2 * (2 : Int) ^ g := by rw [pow_cast]; omega
  clear h2
  go_enter Try.func205, Try.ntmps205
  go_wp2_with fail
  refine (isSegment_any g _).mono ?_; rintro e w' ⟨rfl, rfl⟩
  rw [hb]
  go_wp2
  exact bodyPost_ret (v := .tuple #[.agg #[.int .u64 sg, .int .i64 (5 * 2 ^ g + n)], .bool true]) (by simp [results, Try.results205, go_sem]) rfl ⟨by simp, (by repeat first | exact Below.refl _ _ | (refine Below.alloc ?_ (by simp) _) | (refine Below.setCell ?_ (by simp) _) | refine below_drewN ?_ _)⟩

theorem counter_none (sg : Nat) (g n : Int) (w : World) (h : g < 0 ∨ 8 ≤ g) :
    Calls Try.prog 205 #[.int .u64 sg, .int .i64 g, .int .i64 n] w fun e w' => e = .returned (.tuple #[.agg #[.int .u64 0, .int .i64 0], .bool false]) ∧ Below w.heap.size w w' := by
  have hb : (decide (0 ≤ g) && decide (g < 8)) = false := by simp; omega
  go_enter Try.func205, Try.ntmps205
  go_wp2_with fail
  refine (isSegment_any g _).mono ?_; rintro e w' ⟨rfl, rfl⟩
  rw [hb]
  go_wp2
  exact bodyPost_ret (v := .tuple #[.agg #[.int .u64 0, .int .i64 0], .bool false]) (by simp [results, Try.results205, go_sem]) rfl ⟨rfl, (by repeat first | exact Below.refl _ _ | (refine Below.alloc ?_ (by simp) _) | (refine Below.setCell ?_ (by simp) _) | refine below_drewN ?_ _)⟩

theorem counter_bad (sg g : Nat) (n : Int) (w : World) (h : g ≤ 7) (hn : n < 1 ∨ 2 * 2 ^ g ≤ n) :
    Calls Try.prog 205 #[.int .u64 sg, .int .i64 g, .int .i64 n] w fun e w' => e = .returned (.tuple #[.agg #[.int .u64 0, .int .i64 0], .bool false]) ∧ Below w.heap.size w w' := by
  obtain ⟨p1, p2⟩ := pow_int (k := g) (by omega)
  have hb : (decide (0 ≤ (g : Int)) && decide ((g : Int) < 8)) = true := by simp; omega
  by_cases h0 : n < 1
  · clear hn
    go_enter Try.func205, Try.ntmps205
    go_wp2_with fail
    refine (isSegment_any g _).mono ?_; rintro e w' ⟨rfl, rfl⟩
    rw [hb]
    go_wp2
    exact bodyPost_ret (v := .tuple #[.agg #[.int .u64 0, .int .i64 0], .bool false]) (by simp [results, Try.results205, go_sem]) rfl ⟨rfl, (by repeat first | exact Below.refl _ _ | (refine Below.alloc ?_ (by simp) _) | (refine Below.setCell ?_ (by simp) _) | refine below_drewN ?_ _)⟩
  · have h3 : 2 * (2 : Int) ^ g ≤ n := by omega
    clear hn
    go_enter Try.func205, Try.ntmps205
    go_wp2_with fail
    refine (isSegment_any g _).mono ?_; rintro e w' ⟨rfl, rfl⟩
    rw [hb]
    go_wp2
    exact bodyPost_ret (v := .tuple #[.agg #[.int .u64 0, .int .i64 0], .bool false]) (by simp [results, Try.results205, go_sem]) rfl ⟨rfl, (by repeat first | exact Below.refl _ _ | (refine Below.alloc ?_ (by simp) _) | (refine Below.setCell ?_ (by simp) _) | refine below_drewN ?_ _)⟩

theorem slot_yes (g n : Nat) (w : World) (h : g ≤ 7) (h1 : 2 ^ g ≤ n) (h2 : n < 2 * 2 ^ g) :
    Calls Try.prog 206 #[.int .i64 g, .int .i64 n] w fun e w' => e = .returned (.tuple #[.int .i64 (n - 1 : Nat), .bool true]) ∧ w = w' := by
  obtain ⟨p1, p2⟩ := pow_int (k := g) (by omega)
  have hb : (decide (0 ≤ (g : Int)) && decide ((g : Int) < 8)) = true := by simp; omega
  have h3 : (n : Int) < 2 * (2 : Int) ^ g := by rw [pow_cast]; omega
  have h4 : (2 : Int) ^ g ≤ n := by rw [pow_cast]; omega
  have h5 : 1 ≤ n := by omega
  clear h1 h2
  go_enter Try.func206, Try.ntmps206
  go_wp2_with fail
  refine (isSegment_any g _).mono ?_; rintro e w' ⟨rfl, rfl⟩
  rw [hb]
  go_wp2
  go_ret2
  exact ⟨by rw [Int.ofNat_sub h5]; simp, rfl⟩

theorem slot_none (g n : Int) (w : World) (h : g < 0 ∨ 8 ≤ g) :
    Calls Try.prog 206 #[.int .i64 g, .int .i64 n] w fun e w' => e = .returned (.tuple #[.int .i64 0, .bool false]) ∧ w = w' := by
  have hb : (decide (0 ≤ g) && decide (g < 8)) = false := by simp; omega
  go_enter Try.func206, Try.ntmps206
  go_wp2_with fail
  refine (isSegment_any g _).mono ?_; rintro e w' ⟨rfl, rfl⟩
  rw [hb]
  go_wp2
  go_ret2
  exact ⟨rfl, rfl⟩

theorem slot_bad (g : Nat) (n : Int) (w : World) (h : g ≤ 7) (hn : n < 2 ^ g ∨ 2 * 2 ^ g ≤ n) :
    Calls Try.prog 206 #[.int .i64 g, .int .i64 n] w fun e w' => e = .returned (.tuple #[.int .i64 0, .bool false]) ∧ w = w' := by
  obtain ⟨p1, p2⟩ := pow_int (k := g) (by omega)
  have hb : (decide (0 ≤ (g : Int)) && decide ((g : Int) < 8)) = true := by simp; omega
  by_cases h0 : n < (2 : Int) ^ g
  · clear hn
    go_enter Try.func206, Try.ntmps206
    go_wp2_with fail
    refine (isSegment_any g _).mono ?_; rintro e w' ⟨rfl, rfl⟩
    rw [hb]
    go_wp2
    go_ret2
    exact ⟨rfl, rfl⟩
  · have h3 : 2 * (2 : Int) ^ g ≤ n := by omega
    clear hn
    go_enter Try.func206, Try.ntmps206
    go_wp2_with fail
    refine (isSegment_any g _).mono ?_; rintro e w' ⟨rfl, rfl⟩
    rw [hb]
    go_wp2
    go_ret2
    exact ⟨rfl, rfl⟩

theorem pow_any (g : Nat) (w : World) (h : g ≤ 8) :
    Calls Try.prog 96 #[.int .i64 g] w fun e w' => e = .returned (.int .i64 (2 ^ g : Nat)) ∧ w = w' := by
  go_enter Try.func96, Try.ntmps96
  go_wp2
  go_loop [3, 4] (fun n i => ∃ k : Nat, k ≤ g ∧ i = .int .i64 k ∧ n = .int .i64 ((2 : Int) ^ k)) (fun _ i => g - (intOf i).toNat)
  case atStart => exact ⟨0, Nat.zero_le _, rfl, rfl⟩
  case round =>
    obtain ⟨k, hk, rfl, rfl⟩ := hrel
    by_cases hlt : k < g
    · obtain ⟨p1, p2⟩ := pow_int (k := k) (by omega)
      go_wp2
      go_round
      case rel => exact ⟨k + 1, by omega, by go_num, by rw [Int.pow_succ]; go_num⟩
      case measure => simp [intOf]; omega
    · obtain rfl : k = g := by omega
      go_wp2
      go_ret
      exact ⟨by simp, rfl⟩

end Go.Proofs.Ytnfpkadepomjjaa