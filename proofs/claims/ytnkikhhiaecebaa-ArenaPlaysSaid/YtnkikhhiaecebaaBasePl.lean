/- Plain functions of layer 1 (several numbers in one word) and what the machine's bit operations come to. No program in sight. -/
import Derived.Laws.BitsAllLaws
import Derived.RowKit
import Derived.Laws.Bits64
set_option linter.all false
namespace Go.Proofs.Ytnkikhhiaecebaa
open Go.RowKit

def handleF (a b : Nat) : Nat × Bool := if (1 ≤ a ∧ a ≤ 268435455) ∧ 1 ≤ b ∧ b ≤ 65535 then (a * 65536 + b, true) else (0, false)

def TW : Nat := 18446744073709551616

theorem and_low (n k : Nat) (hn : n < TW) (hk : k ≤ 63) : bits .and .u64 (n : Int) (IntKind.u64.wrap (IntKind.u64.wrap (2 ^ k) - 1)) = ((n % 2 ^ k : Nat) : Int) := by
  unfold TW at hn
  have h2 : (2 : Nat) ^ k ≤ 2 ^ 63 := Nat.pow_le_pow_right (by omega) hk
  have h1 : 1 ≤ (2 : Nat) ^ k := Nat.one_le_two_pow
  have e0 : ((2 : Int) ^ k) = ((2 ^ k : Nat) : Int) := by simp
  have e1 : IntKind.u64.wrap ((2 : Int) ^ k) = ((2 ^ k : Nat) : Int) := by
    rw [e0, IntKind.wrap_u64]; omega
  have e2 : IntKind.u64.wrap (((2 ^ k : Nat) : Int) - 1) = ((2 ^ k - 1 : Nat) : Int) := by
    rw [IntKind.wrap_u64]; omega
  rw [e1, e2, u64_and_nat _ _ hn (by omega), Nat.and_two_pow_sub_one_eq_mod]

theorem or_bare (a b m k : Nat) (hm : m = 2 ^ k) (h : a * m + b < TW) (hb : b < m) : bits .or .u64 ((a : Int) * (m : Int)) (b : Int) = ((a * m + b : Nat) : Int) := by
  unfold TW at h
  subst hm
  have e0 : ((a : Int) * ((2 ^ k : Nat) : Int)) = ((a * 2 ^ k : Nat) : Int) := by simp
  rw [e0, u64_or_nat _ _ (by omega) (by omega), nat_join k _ _ (Nat.mul_mod_left _ _) hb]
theorem or16 (a b : Nat) (h : a ≤ 268435455) (hb : b ≤ 65535) : bits .or .u64 ((a : Int) * 65536) (b : Int) = ((a * 65536 + b : Nat) : Int) :=
  or_bare a b 65536 16 (by decide) (by unfold TW; omega) (by omega)
end Go.Proofs.Ytnkikhhiaecebaa

/- Plain functions of layer 10 (where slots lie). No program in sight. -/
namespace Go.Proofs.Ytnkikhhiaecebaa

def segG (s : Nat) : Nat := Nat.log2 (s + 1)

def pathF (s k : Nat) : List Nat := (List.range k).map fun i => (s + 1) / 2 ^ i
def pathOf (s : Nat) : List Nat := pathF s (segG s + 1)
def ints (l : List Nat) : List Value := l.map fun n : Nat => .int .i64 (n : Int)
end Go.Proofs.Ytnkikhhiaecebaa
