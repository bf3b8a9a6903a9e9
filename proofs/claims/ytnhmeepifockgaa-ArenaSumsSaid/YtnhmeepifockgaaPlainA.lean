/- Plain functions of layer 1 (several numbers in one word) and what the machine's bit operations come to. No program in sight. -/
import Derived.Laws.BitsAllLaws
import Derived.RowKit
import Derived.Laws.Bits64
set_option linter.all false
namespace Go.Proofs.Ytnhmeepifockgaa
open Go.RowKit

/-- A handle of a birth and a block. -/
def handleF (a b : Nat) : Nat × Bool := if (1 ≤ a ∧ a ≤ 268435455) ∧ 1 ≤ b ∧ b ≤ 65535 then (a * 65536 + b, true) else (0, false)
def rightF (h : Nat) : Bool := (handleF (h / 65536) (h % 65536)).2
def rootF (h t : Nat) : Nat × Bool := if (h ≠ 0 ∧ rightF h = false) ∨ 1048575 < t then (0, false) else (h * 1048576 + t, true)
def nextF (r : Nat) : Nat × Bool := rootF (r / 1048576) (r % 1048576 + 1)
def noteF (s b : Nat) : Nat × Bool := if 4294967295 < s ∨ 4294967295 < b then (0, false) else (s * 4294967296 + b, true)

/-- How many words there are; behind a name, so that no tactic counts it up. -/
def TW : Nat := 18446744073709551616

theorem wf_u64 {a : Int} (h : (Lit.int .u64 a).wf = true) : ∃ n : Nat, a = n ∧ n < TW := by
  have hb : 0 ≤ a ∧ a ≤ 18446744073709551615 := by
    simpa [Lit.wf, IntKind.min, IntKind.max, IntKind.bits, IntKind.signed] using h
  exact ⟨a.toNat, by omega, by unfold TW; omega⟩
theorem wf_u8 {a : Int} (h : (Lit.int .u8 a).wf = true) : ∃ n : Nat, a = n ∧ n ≤ 255 := by
  have hb : 0 ≤ a ∧ a ≤ 255 := by
    simpa [Lit.wf, IntKind.min, IntKind.max, IntKind.bits, IntKind.signed] using h
  exact ⟨a.toNat, by omega, by omega⟩
theorem wf_i64 {a : Int} (h : (Lit.int .i64 a).wf = true) : -9223372036854775808 ≤ a ∧ a ≤ 9223372036854775807 := by
  simpa [Lit.wf, IntKind.min, IntKind.max, IntKind.bits, IntKind.signed] using h

theorem and_low (n k : Nat) (hn : n < TW) (hk : k ≤ 63) : bits .and .u64 (n : Int) (IntKind.u64.wrap (IntKind.u64.wrap (2 ^ k) - 1)) = ((n % 2 ^ k : Nat) : Int) := by
  unfold TW at hn
  have h2 : (2 : Nat) ^ k ≤ 2 ^ 63 := Nat.pow_le_pow_right (by omega) hk
  have h1 : 1 ≤ (2 : Nat) ^ k := Nat.one_le_two_pow
  have e0 : ((2 : Int) ^ k) = ((2 ^ k : Nat) : Int) := by simp
  have e1 : IntKind.u64.wrap ((2 : Int) ^ k) = ((2 ^ k : Nat) : Int) := by
    rw [e0, IntKind.wrap_u64]; omega
  have e2 : IntKind.u64.wrap (((2 ^ k : Nat) : Int) - 1) = ((2 ^ k - 1 : Nat) : Int) := by
    rw [IntKind.wrap_u64]; omega
  rw [e1, e2, u64_and_nat _ _ hn (by omega), Nat.and_two_pow_sub_one_eq_mod]

theorem or_join (a b k : Nat) (h : a * 2 ^ k + b < TW) (hb : b < 2 ^ k) : bits .or .u64 (IntKind.u64.wrap ((a : Int) * 2 ^ k)) (b : Int) = ((a * 2 ^ k + b : Nat) : Int) := by
  unfold TW at h
  have e0 : IntKind.u64.wrap ((a : Int) * 2 ^ k) = ((a * 2 ^ k : Nat) : Int) := by
    rw [IntKind.wrap_u64]
    have : ((a : Int) * 2 ^ k) = ((a * 2 ^ k : Nat) : Int) := by simp
    rw [this]; omega
  rw [e0, u64_or_nat _ _ (by omega) (by omega), nat_join k _ _ (Nat.mul_mod_left _ _) hb]

theorem or_bare (a b m k : Nat) (hm : m = 2 ^ k) (h : a * m + b < TW) (hb : b < m) : bits .or .u64 ((a : Int) * (m : Int)) (b : Int) = ((a * m + b : Nat) : Int) := by
  unfold TW at h
  subst hm
  have e0 : ((a : Int) * ((2 ^ k : Nat) : Int)) = ((a * 2 ^ k : Nat) : Int) := by simp
  rw [e0, u64_or_nat _ _ (by omega) (by omega), nat_join k _ _ (Nat.mul_mod_left _ _) hb]
theorem or16 (a b : Nat) (h : a ≤ 268435455) (hb : b ≤ 65535) : bits .or .u64 ((a : Int) * 65536) (b : Int) = ((a * 65536 + b : Nat) : Int) :=
  or_bare a b 65536 16 (by decide) (by unfold TW; omega) (by omega)
theorem or20 (a b : Nat) (h : a ≤ 17592186044415) (hb : b ≤ 1048575) : bits .or .u64 ((a : Int) * 1048576) (b : Int) = ((a * 1048576 + b : Nat) : Int) :=
  or_bare a b 1048576 20 (by decide) (by unfold TW; omega) (by omega)
theorem or32 (a b : Nat) (h : a ≤ 4294967295) (hb : b ≤ 4294967295) : bits .or .u64 ((a : Int) * 4294967296) (b : Int) = ((a * 4294967296 + b : Nat) : Int) :=
  or_bare a b 4294967296 32 (by decide) (by unfold TW; omega) (by omega)

theorem rightF_le {h : Nat} (hr : rightF h = true) : h ≤ 17592186044415 := by
  unfold rightF handleF at hr
  split at hr
  · omega
  · simp at hr
end Go.Proofs.Ytnhmeepifockgaa
