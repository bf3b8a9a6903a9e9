/- Plain functions of layer 10 (where slots lie). No program in sight. -/
import Derived.RowKit
set_option linter.all false
namespace Go.Proofs.Ytnhmeepifockgaa

/-- The segment of a slot, and its offset there. -/
def segG (s : Nat) : Nat := Nat.log2 (s + 1)
def segO (s : Nat) : Nat := s + 1 - 2 ^ segG s

theorem seg_facts {s : Nat} (h : s ≤ 254) : segG s ≤ 7 ∧ 2 ^ segG s ≤ s + 1 ∧ s + 1 < 2 * 2 ^ segG s := by
  have h1 : 2 ^ segG s ≤ s + 1 := Nat.log2_self_le (by omega)
  have h2 : s + 1 < 2 ^ (segG s + 1) := Nat.lt_log2_self
  refine ⟨?_, h1, by rw [Nat.pow_succ] at h2; omega⟩
  rcases Nat.lt_or_ge (segG s) 8 with h3 | h3
  · omega
  · have : 2 ^ 8 ≤ 2 ^ segG s := Nat.pow_le_pow_right (by omega) h3
    omega

theorem pow_le {k : Nat} (h : k ≤ 7) : 2 ^ k ≤ 128 ∧ 1 ≤ 2 ^ k := ⟨Nat.pow_le_pow_right (j := 7) (by omega) h, Nat.one_le_two_pow⟩

theorem seg_more {s k : Nat} (hk : k < segG s) : 2 * 2 ^ k ≤ s + 1 := by
  have h1 : 2 ^ segG s ≤ s + 1 := Nat.log2_self_le (by omega)
  have h2 : 2 ^ (k + 1) ≤ 2 ^ segG s := Nat.pow_le_pow_right (by omega) hk
  rw [Nat.pow_succ] at h2; omega

theorem pow_cast (k : Nat) : (2 : Int) ^ k = ((2 ^ k : Nat) : Int) := by simp
theorem pow_int {k : Nat} (h : k ≤ 7) : (2 : Int) ^ k ≤ 128 ∧ 1 ≤ (2 : Int) ^ k := by
  have := pow_le h; rw [pow_cast]; omega
theorem seg_less {s k : Nat} (hs : s ≤ 254) (hk : k = segG s) : (s : Int) + 1 < 2 * (2 : Int) ^ k := by
  have := (seg_facts hs).2.2; rw [pow_cast, hk]; omega

/-- A slot's path: its node, and those above it. -/
def pathF (s k : Nat) : List Nat := (List.range k).map fun i => (s + 1) / 2 ^ i
def pathOf (s : Nat) : List Nat := pathF s (segG s + 1)
theorem pathF_len (s k : Nat) : (pathF s k).length = k := by simp [pathF]
theorem pathF_succ (s k : Nat) : pathF s (k + 1) = pathF s k ++ [(s + 1) / 2 ^ k] := by simp [pathF, List.range_succ]
theorem path_zero {s k : Nat} (h : (s + 1) / 2 ^ k = 0) : segG s < k := by
  rcases Nat.lt_or_ge (segG s) k with h1 | h1
  · exact h1
  · have h2 : 2 ^ segG s ≤ s + 1 := Nat.log2_self_le (by omega)
    have h3 : 2 ^ k ≤ 2 ^ segG s := Nat.pow_le_pow_right (by omega) h1
    have := Nat.div_pos (Nat.le_trans h3 h2) (Nat.two_pow_pos k)
    omega
theorem path_pos {s k : Nat} (h : 0 < (s + 1) / 2 ^ k) : k ≤ segG s := by
  rcases Nat.lt_or_ge (segG s) k with h1 | h1
  · have h2 : s + 1 < 2 ^ (segG s + 1) := Nat.lt_log2_self
    have h3 : 2 ^ (segG s + 1) ≤ 2 ^ k := Nat.pow_le_pow_right (by omega) h1
    have := Nat.div_eq_of_lt (Nat.lt_of_lt_of_le h2 h3)
    omega
  · exact h1
theorem path_half (s k : Nat) : (s + 1) / 2 ^ (k + 1) = (s + 1) / 2 ^ k / 2 := by rw [Nat.pow_succ, Nat.div_div_eq_div_mul]
theorem path_more {s j : Nat} (h : 1 < (s + 1) / 2 ^ j) : j < segG s := by
  have h1 : 0 < (s + 1) / 2 ^ (j + 1) := by rw [path_half]; omega
  have := path_pos h1
  omega
theorem path_last {s j : Nat} (hj : j ≤ segG s) (h : ¬ 1 < (s + 1) / 2 ^ j) : j = segG s := by
  rcases Nat.lt_or_ge j (segG s) with h1 | h1
  · have h2 : 2 ^ segG s ≤ s + 1 := Nat.log2_self_le (by omega)
    have h3 : 2 ^ (j + 1) ≤ 2 ^ segG s := Nat.pow_le_pow_right (by omega) h1
    have := Nat.div_pos (Nat.le_trans h3 h2) (Nat.two_pow_pos (j + 1))
    rw [path_half] at this; omega
  · omega
theorem pathF_at (s k j : Nat) (h : j < k) : (pathF s k)[j]? = some ((s + 1) / 2 ^ j) := by simp [pathF, h]
/-- A list of numbers as the cells of an int's row. -/
def ints (l : List Nat) : List Value := l.map fun n : Nat => .int .i64 (n : Int)
end Go.Proofs.Ytnhmeepifockgaa
