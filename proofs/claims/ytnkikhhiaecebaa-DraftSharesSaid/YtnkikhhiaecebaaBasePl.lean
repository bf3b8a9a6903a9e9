/- Plain functions of layer 1 (several numbers in one word) and what the machine's bit operations come to. No program in sight. -/
import Derived.Laws.BitsAllLaws
import Derived.RowKit
import Derived.Laws.Bits64
import Derived.Test.YtnkikhhiaecebaaBaseMap
set_option linter.all false
namespace Go.Proofs.Ytnkikhhiaecebaa
open Go.RowKit

/-- A handle of a birth and a block. -/
def handleF (a b : Nat) : Nat × Bool := if (1 ≤ a ∧ a ≤ 268435455) ∧ 1 ≤ b ∧ b ≤ 65535 then (a * 65536 + b, true) else (0, false)
def rightF (h : Nat) : Bool := (handleF (h / 65536) (h % 65536)).2
def rootF (h t : Nat) : Nat × Bool := if (h ≠ 0 ∧ rightF h = false) ∨ 1048575 < t then (0, false) else (h * 1048576 + t, true)
def nextF (r : Nat) : Nat × Bool := rootF (r / 1048576) (r % 1048576 + 1)
def noteF (s b : Nat) : Nat × Bool := if 4294967295 < s ∨ 4294967295 < b then (0, false) else (s * 4294967296 + b, true)

/-- How many words there are; behind a name, so that no tactic counts it up. -/
def TW : Nat := 18446744073709551616

theorem wf_u64 {a : Int} (h : (Lit.int .u64 a).wf = true) : ∃ n : Nat, a = n ∧ n < TW := by
  have hb : 0 ≤ a ∧ a ≤ 18446744073709551615 := by
    simpa [Lit.wf, IntKind.min, IntKind.max, IntKind.bits, IntKind.signed] using h
  exact ⟨a.toNat, by omega, by unfold TW; omega⟩
theorem wf_u8 {a : Int} (h : (Lit.int .u8 a).wf = true) : ∃ n : Nat, a = n ∧ n ≤ 255 := by
  have hb : 0 ≤ a ∧ a ≤ 255 := by
    simpa [Lit.wf, IntKind.min, IntKind.max, IntKind.bits, IntKind.signed] using h
  exact ⟨a.toNat, by omega, by omega⟩
theorem wf_i64 {a : Int} (h : (Lit.int .i64 a).wf = true) : -9223372036854775808 ≤ a ∧ a ≤ 9223372036854775807 := by
  simpa [Lit.wf, IntKind.min, IntKind.max, IntKind.bits, IntKind.signed] using h

theorem and_low (n k : Nat) (hn : n < TW) (hk : k ≤ 63) : bits .and .u64 (n : Int) (IntKind.u64.wrap (IntKind.u64.wrap (2 ^ k) - 1)) = ((n % 2 ^ k : Nat) : Int) := by
  unfold TW at hn
  have h2 : (2 : Nat) ^ k ≤ 2 ^ 63 := Nat.pow_le_pow_right (by omega) hk
  have h1 : 1 ≤ (2 : Nat) ^ k := Nat.one_le_two_pow
  have e0 : ((2 : Int) ^ k) = ((2 ^ k : Nat) : Int) := by simp
  have e1 : IntKind.u64.wrap ((2 : Int) ^ k) = ((2 ^ k : Nat) : Int) := by
    rw [e0, IntKind.wrap_u64]; omega
  have e2 : IntKind.u64.wrap (((2 ^ k : Nat) : Int) - 1) = ((2 ^ k - 1 : Nat) : Int) := by
    rw [IntKind.wrap_u64]; omega
  rw [e1, e2, u64_and_nat _ _ hn (by omega), Nat.and_two_pow_sub_one_eq_mod]

theorem or_join (a b k : Nat) (h : a * 2 ^ k + b < TW) (hb : b < 2 ^ k) : bits .or .u64 (IntKind.u64.wrap ((a : Int) * 2 ^ k)) (b : Int) = ((a * 2 ^ k + b : Nat) : Int) := by
  unfold TW at h
  have e0 : IntKind.u64.wrap ((a : Int) * 2 ^ k) = ((a * 2 ^ k : Nat) : Int) := by
    rw [IntKind.wrap_u64]
    have : ((a : Int) * 2 ^ k) = ((a * 2 ^ k : Nat) : Int) := by simp
    rw [this]; omega
  rw [e0, u64_or_nat _ _ (by omega) (by omega), nat_join k _ _ (Nat.mul_mod_left _ _) hb]

theorem or_bare (a b m k : Nat) (hm : m = 2 ^ k) (h : a * m + b < TW) (hb : b < m) : bits .or .u64 ((a : Int) * (m : Int)) (b : Int) = ((a * m + b : Nat) : Int) := by
  unfold TW at h
  subst hm
  have e0 : ((a : Int) * ((2 ^ k : Nat) : Int)) = ((a * 2 ^ k : Nat) : Int) := by simp
  rw [e0, u64_or_nat _ _ (by omega) (by omega), nat_join k _ _ (Nat.mul_mod_left _ _) hb]
theorem or16 (a b : Nat) (h : a ≤ 268435455) (hb : b ≤ 65535) : bits .or .u64 ((a : Int) * 65536) (b : Int) = ((a * 65536 + b : Nat) : Int) :=
  or_bare a b 65536 16 (by decide) (by unfold TW; omega) (by omega)
theorem or20 (a b : Nat) (h : a ≤ 17592186044415) (hb : b ≤ 1048575) : bits .or .u64 ((a : Int) * 1048576) (b : Int) = ((a * 1048576 + b : Nat) : Int) :=
  or_bare a b 1048576 20 (by decide) (by unfold TW; omega) (by omega)
theorem or32 (a b : Nat) (h : a ≤ 4294967295) (hb : b ≤ 4294967295) : bits .or .u64 ((a : Int) * 4294967296) (b : Int) = ((a * 4294967296 + b : Nat) : Int) :=
  or_bare a b 4294967296 32 (by decide) (by unfold TW; omega) (by omega)

theorem rightF_le {h : Nat} (hr : rightF h = true) : h ≤ 17592186044415 := by
  unfold rightF handleF at hr
  split at hr
  · omega
  · simp at hr
end Go.Proofs.Ytnkikhhiaecebaa

/- Plain functions of layer 10 (where slots lie). No program in sight. -/
namespace Go.Proofs.Ytnkikhhiaecebaa

/-- The segment of a slot, and its offset there. -/
def segG (s : Nat) : Nat := Nat.log2 (s + 1)
def segO (s : Nat) : Nat := s + 1 - 2 ^ segG s

theorem seg_facts {s : Nat} (h : s ≤ 254) : segG s ≤ 7 ∧ 2 ^ segG s ≤ s + 1 ∧ s + 1 < 2 * 2 ^ segG s := by
  have h1 : 2 ^ segG s ≤ s + 1 := Nat.log2_self_le (by omega)
  have h2 : s + 1 < 2 ^ (segG s + 1) := Nat.lt_log2_self
  refine ⟨?_, h1, by rw [Nat.pow_succ] at h2; omega⟩
  rcases Nat.lt_or_ge (segG s) 8 with h3 | h3
  · omega
  · have : 2 ^ 8 ≤ 2 ^ segG s := Nat.pow_le_pow_right (by omega) h3
    omega

theorem pow_le {k : Nat} (h : k ≤ 7) : 2 ^ k ≤ 128 ∧ 1 ≤ 2 ^ k := ⟨Nat.pow_le_pow_right (j := 7) (by omega) h, Nat.one_le_two_pow⟩

theorem seg_more {s k : Nat} (hk : k < segG s) : 2 * 2 ^ k ≤ s + 1 := by
  have h1 : 2 ^ segG s ≤ s + 1 := Nat.log2_self_le (by omega)
  have h2 : 2 ^ (k + 1) ≤ 2 ^ segG s := Nat.pow_le_pow_right (by omega) hk
  rw [Nat.pow_succ] at h2; omega

theorem pow_cast (k : Nat) : (2 : Int) ^ k = ((2 ^ k : Nat) : Int) := by simp
theorem pow_int {k : Nat} (h : k ≤ 7) : (2 : Int) ^ k ≤ 128 ∧ 1 ≤ (2 : Int) ^ k := by
  have := pow_le h; rw [pow_cast]; omega
theorem seg_less {s k : Nat} (hs : s ≤ 254) (hk : k = segG s) : (s : Int) + 1 < 2 * (2 : Int) ^ k := by
  have := (seg_facts hs).2.2; rw [pow_cast, hk]; omega

/-- A slot's path: its node, and those above it. -/
def pathF (s k : Nat) : List Nat := (List.range k).map fun i => (s + 1) / 2 ^ i
def pathOf (s : Nat) : List Nat := pathF s (segG s + 1)
theorem pathF_len (s k : Nat) : (pathF s k).length = k := by simp [pathF]
theorem pathF_succ (s k : Nat) : pathF s (k + 1) = pathF s k ++ [(s + 1) / 2 ^ k] := by simp [pathF, List.range_succ]
theorem path_zero {s k : Nat} (h : (s + 1) / 2 ^ k = 0) : segG s < k := by
  rcases Nat.lt_or_ge (segG s) k with h1 | h1
  · exact h1
  · have h2 : 2 ^ segG s ≤ s + 1 := Nat.log2_self_le (by omega)
    have h3 : 2 ^ k ≤ 2 ^ segG s := Nat.pow_le_pow_right (by omega) h1
    have := Nat.div_pos (Nat.le_trans h3 h2) (Nat.two_pow_pos k)
    omega
theorem path_pos {s k : Nat} (h : 0 < (s + 1) / 2 ^ k) : k ≤ segG s := by
  rcases Nat.lt_or_ge (segG s) k with h1 | h1
  · have h2 : s + 1 < 2 ^ (segG s + 1) := Nat.lt_log2_self
    have h3 : 2 ^ (segG s + 1) ≤ 2 ^ k := Nat.pow_le_pow_right (by omega) h1
    have := Nat.div_eq_of_lt (Nat.lt_of_lt_of_le h2 h3)
    omega
  · exact h1
theorem path_half (s k : Nat) : (s + 1) / 2 ^ (k + 1) = (s + 1) / 2 ^ k / 2 := by rw [Nat.pow_succ, Nat.div_div_eq_div_mul]
theorem path_more {s j : Nat} (h : 1 < (s + 1) / 2 ^ j) : j < segG s := by
  have h1 : 0 < (s + 1) / 2 ^ (j + 1) := by rw [path_half]; omega
  have := path_pos h1
  omega
theorem path_last {s j : Nat} (hj : j ≤ segG s) (h : ¬ 1 < (s + 1) / 2 ^ j) : j = segG s := by
  rcases Nat.lt_or_ge j (segG s) with h1 | h1
  · have h2 : 2 ^ segG s ≤ s + 1 := Nat.log2_self_le (by omega)
    have h3 : 2 ^ (j + 1) ≤ 2 ^ segG s := Nat.pow_le_pow_right (by omega) h1
    have := Nat.div_pos (Nat.le_trans h3 h2) (Nat.two_pow_pos (j + 1))
    rw [path_half] at this; omega
  · omega
theorem pathF_at (s k j : Nat) (h : j < k) : (pathF s k)[j]? = some ((s + 1) / 2 ^ j) := by simp [pathF, h]
/-- A list of numbers as the cells of an int's row. -/
def ints (l : List Nat) : List Value := l.map fun n : Nat => .int .i64 (n : Int)
end Go.Proofs.Ytnkikhhiaecebaa

/- Two lists of numbers, compared. No program in sight. -/
namespace Go.Proofs.Ytnkikhhiaecebaa
open Go
def weqF (n1 : Nat) (f : Nat → Int) (n2 : Nat) (g : Nat → Int) : Int := if n1 = n2 ∧ ∀ i, i < n1 → f i = g i then 1 else 0
theorem weqF_one {n1 n2 : Nat} {f g : Nat → Int} (h : n1 = n2) (he : ∀ i, i < n1 → f i = g i) : weqF n1 f n2 g = 1 := if_pos ⟨h, he⟩
theorem weqF_len {n1 n2 : Nat} {f g : Nat → Int} (h : n1 ≠ n2) : weqF n1 f n2 g = 0 := if_neg fun e => h e.1
theorem weqF_at {n1 n2 : Nat} {f g : Nat → Int} {i : Nat} (hi : i < n1) (h : f i ≠ g i) : weqF n1 f n2 g = 0 := if_neg fun e => h (e.2 i hi)
end Go.Proofs.Ytnkikhhiaecebaa
