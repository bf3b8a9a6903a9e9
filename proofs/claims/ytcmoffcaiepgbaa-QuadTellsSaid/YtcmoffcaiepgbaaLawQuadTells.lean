/- QuadTells: for all words, keys, levels the law returns true and turns nothing; condition: the numbers lie within their kinds. -/
import Derived.Test.YtcmoffcaiepgbaaBaseQ
import Derived.Test.YtcmoffcaiepgbaaLawQuadPuts
set_option linter.all false
namespace Go.Proofs.Ytcmoffcaiepgbaa
open Go Go.RowKit
set_option maxRecDepth 1000000
set_option maxHeartbeats 0
/-- The greatest one among the first k. -/
def grTo (a b c d key : Int) (k : Nat) : Option Nat := grF (nodeN a b c d) (min (min key 3 + 1).toNat k)
def tblT7 : List (Smry Try.prog XE) := [firstS 25 (fun W => by have h := law_trueR first07 W; exact h), digS, rdigS, greS]
def telL (a b c d key : Int) : Scr XE := .inv (liveL [2, 3, 4, 5, 6, 7, 8, 9, 10, 11, 12, 13, 30, 31]) [] (upTo 4) (fun _ y => ([(31, .c (.int false .i64 (y.1 : Int))), (9, .c (.int false .i64 (((grTo a b c d key y.1).getD 0 : Nat) : Int))), (10, .c (.boo false (grTo a b c d key y.1).isSome))], [])) (fun y => 4 - y.1) (fun _ => bN 9)
theorem grTo_zero (a b c d key : Int) : grTo a b c d key 0 = none := by
  unfold grTo
  rw [Nat.min_zero]
  rfl
theorem grTo_hit {a b c d key : Int} {k : Nat} (h : [a, b, c, d].getD k 0 ≠ 0) (hk : (k : Int) ≤ key) (h4 : k < 4) : grTo a b c d key (k + 1) = some k := by
  unfold grTo
  rw [show min (min key 3 + 1).toNat (k + 1) = k + 1 by omega]
  exact if_neg h
theorem grTo_off {a b c d key : Int} {k : Nat} (hk : ¬ (k : Int) ≤ key) : grTo a b c d key (k + 1) = grTo a b c d key k := by
  unfold grTo
  rw [show min (min key 3 + 1).toNat (k + 1) = min (min key 3 + 1).toNat k by omega]
theorem grTo_miss {a b c d key : Int} {k : Nat} (h : [a, b, c, d].getD k 0 = 0) : grTo a b c d key (k + 1) = grTo a b c d key k := by
  unfold grTo
  rcases Nat.lt_or_ge k (min key 3 + 1).toNat with h1 | h1
  · rw [show min (min key 3 + 1).toNat (k + 1) = k + 1 by omega, show min (min key 3 + 1).toNat k = k by omega]
    exact if_pos h
  · rw [show min (min key 3 + 1).toNat (k + 1) = min (min key 3 + 1).toNat k by omega]
theorem grTo_four (a b c d key : Int) : grTo a b c d key 4 = grOf a b c d key := by
  unfold grTo grOf
  rw [show min (min key 3 + 1).toNat 4 = (min key 3 + 1).toNat by omega]
theorem grTo_all {a b c d key : Int} {k : Nat} (h : ¬ (k : Int) < 4) (h4 : k ≤ 4) : grTo a b c d key k = grOf a b c d key := by
  rw [show k = 4 by omega, grTo_four]
/-- What the executor leaves to be shown of roundelay/roundelaylaw07.QuadTells, written out. -/
theorem quadTells_vc (a b c d key level w : Int) : (callN Try.prog (tblT7 : List (Smry Try.prog XE)) (fun _ _ => false) 100 20 4 [.agg [.int false .u64 a, .int false .u64 b, .int false .u64 c, .int false .u64 d, .int false .i64 key, .int false .i64 level, .int false .u64 w]] ⟨[], 0⟩ (telL a b c d key) (fun v _ _ => retTrue v)) = (
    (a = a ∧ b = b ∧ c = c ∧ d = d ∧ key = key ∧ level = level ∧ w = w ∧ (a = a ∧ b = b ∧ c = c ∧ d = d ∧ key = key ∧ level = level ∧ w = w ∧ True ∧ (∀ (z : Un), True → (∃ (y : upTo (4
    : Nat)), key = key ∧ level = level ∧ w = w ∧ (↑((grOf a b c d key).getD (0 : Nat)) : Int) = (↑((grOf a b c d key).getD (0 : Nat)) : Int) ∧ (grOf a b c d key).isSome = (grOf a b c d
    key).isSome ∧ a = a ∧ b = b ∧ c = c ∧ d = d ∧ a = a ∧ b = b ∧ c = c ∧ d = d ∧ key = key ∧ level = level ∧ w = w ∧ a = a ∧ b = b ∧ c = c ∧ d = d ∧ (↑y.val : Int) = (0 : Int) ∧
    (↑((grTo a b c d key y.val).getD (0 : Nat)) : Int) = (0 : Int) ∧ (grTo a b c d key y.val).isSome = false ∧ True) ∧ ∀ (y : upTo (4 : Nat)) (ρ : Nat → Value), (decide ((↑y.val : Int)
    < (4 : Int)) = true → (((0 : Int) ≤ (↑y.val : Int) ∧ (↑y.val : Int) < (4 : Int)) ∧ (↑y.val : Int).toNat < (4 : Nat)) ∧ (([a, b, c, d].getD (↑y.val : Int).toNat (0 : Int) != (0 :
    Int)) = true → (decide ((↑y.val : Int) ≤ key) = true → ((-9223372036854775808 : Int) ≤ (↑y.val : Int) + (1 : Int) ∧ (↑y.val : Int) + (1 : Int) ≤ (9223372036854775807 : Int)) ∧ ∃ (y'
    : upTo (4 : Nat)), (4 : Nat) - y'.val < (4 : Nat) - y.val ∧ key = key ∧ level = level ∧ w = w ∧ (↑((grOf a b c d key).getD (0 : Nat)) : Int) = (↑((grOf a b c d key).getD (0 : Nat))
    : Int) ∧ (grOf a b c d key).isSome = (grOf a b c d key).isSome ∧ a = a ∧ b = b ∧ c = c ∧ d = d ∧ a = a ∧ b = b ∧ c = c ∧ d = d ∧ key = key ∧ level = level ∧ w = w ∧ a = a ∧ b = b ∧
    c = c ∧ d = d ∧ (↑y'.val : Int) = (↑y.val : Int) + (1 : Int) ∧ (↑((grTo a b c d key y'.val).getD (0 : Nat)) : Int) = (↑y.val : Int) ∧ (grTo a b c d key y'.val).isSome = true ∧ True)
    ∧ (decide ((↑y.val : Int) ≤ key) = false → ((-9223372036854775808 : Int) ≤ (↑y.val : Int) + (1 : Int) ∧ (↑y.val : Int) + (1 : Int) ≤ (9223372036854775807 : Int)) ∧ ∃ (y' : upTo (4 :
    Nat)), (4 : Nat) - y'.val < (4 : Nat) - y.val ∧ key = key ∧ level = level ∧ w = w ∧ (↑((grOf a b c d key).getD (0 : Nat)) : Int) = (↑((grOf a b c d key).getD (0 : Nat)) : Int) ∧
    (grOf a b c d key).isSome = (grOf a b c d key).isSome ∧ a = a ∧ b = b ∧ c = c ∧ d = d ∧ a = a ∧ b = b ∧ c = c ∧ d = d ∧ key = key ∧ level = level ∧ w = w ∧ a = a ∧ b = b ∧ c = c ∧ d
    = d ∧ (↑y'.val : Int) = (↑y.val : Int) + (1 : Int) ∧ (↑((grTo a b c d key y'.val).getD (0 : Nat)) : Int) = (↑((grTo a b c d key y.val).getD (0 : Nat)) : Int) ∧ (grTo a b c d key
    y'.val).isSome = (grTo a b c d key y.val).isSome ∧ True)) ∧ (([a, b, c, d].getD (↑y.val : Int).toNat (0 : Int) != (0 : Int)) = false → ((-9223372036854775808 : Int) ≤ (↑y.val : Int)
    + (1 : Int) ∧ (↑y.val : Int) + (1 : Int) ≤ (9223372036854775807 : Int)) ∧ ∃ (y' : upTo (4 : Nat)), (4 : Nat) - y'.val < (4 : Nat) - y.val ∧ key = key ∧ level = level ∧ w = w ∧
    (↑((grOf a b c d key).getD (0 : Nat)) : Int) = (↑((grOf a b c d key).getD (0 : Nat)) : Int) ∧ (grOf a b c d key).isSome = (grOf a b c d key).isSome ∧ a = a ∧ b = b ∧ c = c ∧ d = d ∧
    a = a ∧ b = b ∧ c = c ∧ d = d ∧ key = key ∧ level = level ∧ w = w ∧ a = a ∧ b = b ∧ c = c ∧ d = d ∧ (↑y'.val : Int) = (↑y.val : Int) + (1 : Int) ∧ (↑((grTo a b c d key y'.val).getD
    (0 : Nat)) : Int) = (↑((grTo a b c d key y.val).getD (0 : Nat)) : Int) ∧ (grTo a b c d key y'.val).isSome = (grTo a b c d key y.val).isSome ∧ True)) ∧ (decide ((↑y.val : Int) < (4 :
    Int)) = false → (decide (level ≥ (0 : Int)) = true → (decide (level < (4 : Int)) = true → ((0 : Int) ≤ level ∧ level < (4 : Int)) ∧ level.toNat < (4 : Nat) ∧ (True ∧ (∀ (z : Un),
    True → a = a ∧ b = b ∧ c = c ∧ d = d ∧ ((if level.toNat = (0 : Nat) then w else a) = if level.toNat = (0 : Nat) then w else a) ∧ ((if level.toNat = (1 : Nat) then w else b) = if
    level.toNat = (1 : Nat) then w else b) ∧ ((if level.toNat = (2 : Nat) then w else c) = if level.toNat = (2 : Nat) then w else c) ∧ ((if level.toNat = (3 : Nat) then w else d) = if
    level.toNat = (3 : Nat) then w else d) ∧ (True ∧ (∀ (z : Un), True → a = a ∧ b = b ∧ c = c ∧ d = d ∧ ((if level.toNat = (0 : Nat) then w else a) = if level.toNat = (0 : Nat) then w
    else a) ∧ ((if level.toNat = (1 : Nat) then w else b) = if level.toNat = (1 : Nat) then w else b) ∧ ((if level.toNat = (2 : Nat) then w else c) = if level.toNat = (2 : Nat) then w
    else c) ∧ ((if level.toNat = (3 : Nat) then w else d) = if level.toNat = (3 : Nat) then w else d) ∧ ((dgF key level == dgF key level) = true → ((decide (level ≥ (0 : Int)) = true →
    (decide (level < (4 : Int)) = true → ((0 : Int) ≤ level ∧ level < (4 : Int)) ∧ level.toNat < (4 : Nat) ∧ a = a ∧ b = b ∧ c = c ∧ d = d ∧ ((if level.toNat = (0 : Nat) then w else a)
    = if level.toNat = (0 : Nat) then w else a) ∧ ((if level.toNat = (1 : Nat) then w else b) = if level.toNat = (1 : Nat) then w else b) ∧ ((if level.toNat = (2 : Nat) then w else c) =
    if level.toNat = (2 : Nat) then w else c) ∧ ((if level.toNat = (3 : Nat) then w else d) = if level.toNat = (3 : Nat) then w else d) ∧ ((true == (((if level.toNat = (0 : Nat) then w
    else a) == if level.toNat = (0 : Nat) then w else a) && (((if level.toNat = (1 : Nat) then w else b) == if level.toNat = (1 : Nat) then w else b) && (((if level.toNat = (2 : Nat)
    then w else c) == if level.toNat = (2 : Nat) then w else c) && (((if level.toNat = (3 : Nat) then w else d) == if level.toNat = (3 : Nat) then w else d) && true))))) = true →
    (((↑((grOf a b c d key).getD (0 : Nat)) : Int) == (↑((grTo a b c d key y.val).getD (0 : Nat)) : Int)) = true → (true == ((grOf a b c d key).isSome == (grTo a b c d key
    y.val).isSome)) = true) ∧ (((↑((grOf a b c d key).getD (0 : Nat)) : Int) == (↑((grTo a b c d key y.val).getD (0 : Nat)) : Int)) = false → false = true)) ∧ ((true == (((if
    level.toNat = (0 : Nat) then w else a) == if level.toNat = (0 : Nat) then w else a) && (((if level.toNat = (1 : Nat) then w else b) == if level.toNat = (1 : Nat) then w else b) &&
    (((if level.toNat = (2 : Nat) then w else c) == if level.toNat = (2 : Nat) then w else c) && (((if level.toNat = (3 : Nat) then w else d) == if level.toNat = (3 : Nat) then w else
    d) && true))))) = false → false = true)) ∧ (decide (level < (4 : Int)) = false → a = a ∧ b = b ∧ c = c ∧ d = d ∧ ((if level.toNat = (0 : Nat) then w else a) = if level.toNat = (0 :
    Nat) then w else a) ∧ ((if level.toNat = (1 : Nat) then w else b) = if level.toNat = (1 : Nat) then w else b) ∧ ((if level.toNat = (2 : Nat) then w else c) = if level.toNat = (2 :
    Nat) then w else c) ∧ ((if level.toNat = (3 : Nat) then w else d) = if level.toNat = (3 : Nat) then w else d) ∧ ((true == ((a == if level.toNat = (0 : Nat) then w else a) && ((b ==
    if level.toNat = (1 : Nat) then w else b) && ((c == if level.toNat = (2 : Nat) then w else c) && ((d == if level.toNat = (3 : Nat) then w else d) && true))))) = true → (((↑((grOf a
    b c d key).getD (0 : Nat)) : Int) == (↑((grTo a b c d key y.val).getD (0 : Nat)) : Int)) = true → (true == ((grOf a b c d key).isSome == (grTo a b c d key y.val).isSome)) = true) ∧
    (((↑((grOf a b c d key).getD (0 : Nat)) : Int) == (↑((grTo a b c d key y.val).getD (0 : Nat)) : Int)) = false → false = true)) ∧ ((true == ((a == if level.toNat = (0 : Nat) then w
    else a) && ((b == if level.toNat = (1 : Nat) then w else b) && ((c == if level.toNat = (2 : Nat) then w else c) && ((d == if level.toNat = (3 : Nat) then w else d) && true))))) =
    false → false = true))) ∧ (decide (level ≥ (0 : Int)) = false → a = a ∧ b = b ∧ c = c ∧ d = d ∧ ((if level.toNat = (0 : Nat) then w else a) = if level.toNat = (0 : Nat) then w else
    a) ∧ ((if level.toNat = (1 : Nat) then w else b) = if level.toNat = (1 : Nat) then w else b) ∧ ((if level.toNat = (2 : Nat) then w else c) = if level.toNat = (2 : Nat) then w else
    c) ∧ ((if level.toNat = (3 : Nat) then w else d) = if level.toNat = (3 : Nat) then w else d) ∧ ((true == ((a == if level.toNat = (0 : Nat) then w else a) && ((b == if level.toNat =
    (1 : Nat) then w else b) && ((c == if level.toNat = (2 : Nat) then w else c) && ((d == if level.toNat = (3 : Nat) then w else d) && true))))) = true → (((↑((grOf a b c d key).getD
    (0 : Nat)) : Int) == (↑((grTo a b c d key y.val).getD (0 : Nat)) : Int)) = true → (true == ((grOf a b c d key).isSome == (grTo a b c d key y.val).isSome)) = true) ∧ (((↑((grOf a b c
    d key).getD (0 : Nat)) : Int) == (↑((grTo a b c d key y.val).getD (0 : Nat)) : Int)) = false → false = true)) ∧ ((true == ((a == if level.toNat = (0 : Nat) then w else a) && ((b ==
    if level.toNat = (1 : Nat) then w else b) && ((c == if level.toNat = (2 : Nat) then w else c) && ((d == if level.toNat = (3 : Nat) then w else d) && true))))) = false → false =
    true))) ∧ True) ∧ ((dgF key level == dgF key level) = false → false = true)) ∧ True) ∧ True) ∧ True) ∧ True) ∧ (decide (level < (4 : Int)) = false → (True ∧ (∀ (z : Un), True → a =
    a ∧ b = b ∧ c = c ∧ d = d ∧ a = a ∧ b = b ∧ c = c ∧ d = d ∧ (True ∧ (∀ (z : Un), True → a = a ∧ b = b ∧ c = c ∧ d = d ∧ a = a ∧ b = b ∧ c = c ∧ d = d ∧ ((dgF key level == dgF key
    level) = true → ((decide (level ≥ (0 : Int)) = true → (decide (level < (4 : Int)) = true → ((0 : Int) ≤ level ∧ level < (4 : Int)) ∧ level.toNat < (4 : Nat) ∧ a = a ∧ b = b ∧ c = c
    ∧ d = d ∧ a = a ∧ b = b ∧ c = c ∧ d = d ∧ ((true == ((if level.toNat = (0 : Nat) then w else a) == a && ((if level.toNat = (1 : Nat) then w else b) == b && ((if level.toNat = (2 :
    Nat) then w else c) == c && ((if level.toNat = (3 : Nat) then w else d) == d && true))))) = true → (((↑((grOf a b c d key).getD (0 : Nat)) : Int) == (↑((grTo a b c d key y.val).getD
    (0 : Nat)) : Int)) = true → (true == ((grOf a b c d key).isSome == (grTo a b c d key y.val).isSome)) = true) ∧ (((↑((grOf a b c d key).getD (0 : Nat)) : Int) == (↑((grTo a b c d key
    y.val).getD (0 : Nat)) : Int)) = false → false = true)) ∧ ((true == ((if level.toNat = (0 : Nat) then w else a) == a && ((if level.toNat = (1 : Nat) then w else b) == b && ((if
    level.toNat = (2 : Nat) then w else c) == c && ((if level.toNat = (3 : Nat) then w else d) == d && true))))) = false → false = true)) ∧ (decide (level < (4 : Int)) = false → a = a ∧
    b = b ∧ c = c ∧ d = d ∧ a = a ∧ b = b ∧ c = c ∧ d = d ∧ ((true == (a == a && (b == b && (c == c && (d == d && true))))) = true → (((↑((grOf a b c d key).getD (0 : Nat)) : Int) ==
    (↑((grTo a b c d key y.val).getD (0 : Nat)) : Int)) = true → (true == ((grOf a b c d key).isSome == (grTo a b c d key y.val).isSome)) = true) ∧ (((↑((grOf a b c d key).getD (0 :
    Nat)) : Int) == (↑((grTo a b c d key y.val).getD (0 : Nat)) : Int)) = false → false = true)) ∧ ((true == (a == a && (b == b && (c == c && (d == d && true))))) = false → false =
    true))) ∧ (decide (level ≥ (0 : Int)) = false → a = a ∧ b = b ∧ c = c ∧ d = d ∧ a = a ∧ b = b ∧ c = c ∧ d = d ∧ ((true == (a == a && (b == b && (c == c && (d == d && true))))) =
    true → (((↑((grOf a b c d key).getD (0 : Nat)) : Int) == (↑((grTo a b c d key y.val).getD (0 : Nat)) : Int)) = true → (true == ((grOf a b c d key).isSome == (grTo a b c d key
    y.val).isSome)) = true) ∧ (((↑((grOf a b c d key).getD (0 : Nat)) : Int) == (↑((grTo a b c d key y.val).getD (0 : Nat)) : Int)) = false → false = true)) ∧ ((true == (a == a && (b ==
    b && (c == c && (d == d && true))))) = false → false = true))) ∧ True) ∧ ((dgF key level == dgF key level) = false → false = true)) ∧ True) ∧ True) ∧ True) ∧ True)) ∧ (decide (level
    ≥ (0 : Int)) = false → (True ∧ (∀ (z : Un), True → a = a ∧ b = b ∧ c = c ∧ d = d ∧ a = a ∧ b = b ∧ c = c ∧ d = d ∧ (True ∧ (∀ (z : Un), True → a = a ∧ b = b ∧ c = c ∧ d = d ∧ a = a
    ∧ b = b ∧ c = c ∧ d = d ∧ ((dgF key level == dgF key level) = true → ((decide (level ≥ (0 : Int)) = true → (decide (level < (4 : Int)) = true → ((0 : Int) ≤ level ∧ level < (4 :
    Int)) ∧ level.toNat < (4 : Nat) ∧ a = a ∧ b = b ∧ c = c ∧ d = d ∧ a = a ∧ b = b ∧ c = c ∧ d = d ∧ ((true == ((if level.toNat = (0 : Nat) then w else a) == a && ((if level.toNat = (1
    : Nat) then w else b) == b && ((if level.toNat = (2 : Nat) then w else c) == c && ((if level.toNat = (3 : Nat) then w else d) == d && true))))) = true → (((↑((grOf a b c d key).getD
    (0 : Nat)) : Int) == (↑((grTo a b c d key y.val).getD (0 : Nat)) : Int)) = true → (true == ((grOf a b c d key).isSome == (grTo a b c d key y.val).isSome)) = true) ∧ (((↑((grOf a b c
    d key).getD (0 : Nat)) : Int) == (↑((grTo a b c d key y.val).getD (0 : Nat)) : Int)) = false → false = true)) ∧ ((true == ((if level.toNat = (0 : Nat) then w else a) == a && ((if
    level.toNat = (1 : Nat) then w else b) == b && ((if level.toNat = (2 : Nat) then w else c) == c && ((if level.toNat = (3 : Nat) then w else d) == d && true))))) = false → false =
    true)) ∧ (decide (level < (4 : Int)) = false → a = a ∧ b = b ∧ c = c ∧ d = d ∧ a = a ∧ b = b ∧ c = c ∧ d = d ∧ ((true == (a == a && (b == b && (c == c && (d == d && true))))) = true
    → (((↑((grOf a b c d key).getD (0 : Nat)) : Int) == (↑((grTo a b c d key y.val).getD (0 : Nat)) : Int)) = true → (true == ((grOf a b c d key).isSome == (grTo a b c d key
    y.val).isSome)) = true) ∧ (((↑((grOf a b c d key).getD (0 : Nat)) : Int) == (↑((grTo a b c d key y.val).getD (0 : Nat)) : Int)) = false → false = true)) ∧ ((true == (a == a && (b ==
    b && (c == c && (d == d && true))))) = false → false = true))) ∧ (decide (level ≥ (0 : Int)) = false → a = a ∧ b = b ∧ c = c ∧ d = d ∧ a = a ∧ b = b ∧ c = c ∧ d = d ∧ ((true == (a
    == a && (b == b && (c == c && (d == d && true))))) = true → (((↑((grOf a b c d key).getD (0 : Nat)) : Int) == (↑((grTo a b c d key y.val).getD (0 : Nat)) : Int)) = true → (true ==
    ((grOf a b c d key).isSome == (grTo a b c d key y.val).isSome)) = true) ∧ (((↑((grOf a b c d key).getD (0 : Nat)) : Int) == (↑((grTo a b c d key y.val).getD (0 : Nat)) : Int)) =
    false → false = true)) ∧ ((true == (a == a && (b == b && (c == c && (d == d && true))))) = false → false = true))) ∧ True) ∧ ((dgF key level == dgF key level) = false → false =
    true)) ∧ True) ∧ True) ∧ True) ∧ True))) ∧ True) ∧ True) ∧ True) := by
  kernel_rfl
theorem quadTells_run (a b c d key level w : Int) (hc : True) : Run (callN Try.prog (tblT7 : List (Smry Try.prog XE)) (fun _ _ => false) 100 20 4 [.agg [.int false .u64 a, .int false .u64 b, .int false .u64 c, .int false .u64 d, .int false .i64 key, .int false .i64 level, .int false .u64 w]] ⟨[], 0⟩ (telL a b c d key) (fun v _ _ => retTrue v)) := by
  constructor
  rw [quadTells_vc]
  simp only [eq_self, true_and, and_true, beq_self_eq_true, Bool.true_eq_false, Bool.false_eq_true, forall_const, false_implies, Bool.and_true, Int.toNat_natCast]
  intro z
  refine ⟨⟨⟨0, by omega⟩, rfl, by rw [grTo_zero]; rfl, by rw [grTo_zero]; rfl⟩, fun y1 => ?_⟩
  have hy1 : y1.1 ≤ 4 := y1.2
  repeat' first
    | with_reducible apply And.intro
    | with_reducible exact trivial
    | (intro hh; first | with_reducible have hq := of_decide_eq_true hh | with_reducible have hq := of_decide_eq_false hh | with_reducible have hq := eq_of_beq hh | with_reducible have hq := beq_eq_false_iff_ne.1 hh | with_reducible have hq := bne_iff_ne.1 hh | with_reducible have hq := bne_eq_false_iff_eq.1 hh)
    | intro hh
  any_goals first
    | omega
    | exact ⟨⟨y1.1 + 1, by omega⟩, by show 4 - (y1.1 + 1) < 4 - y1.1; omega, by show ((y1.1 + 1 : Nat) : Int) = _; omega, by show (((grTo a b c d key (y1.1 + 1)).getD 0 : Nat) : Int) = _; rw [grTo_hit (by assumption) (by assumption) (by omega)]; rfl, by show (grTo a b c d key (y1.1 + 1)).isSome = _; rw [grTo_hit (by assumption) (by assumption) (by omega)]; rfl⟩
    | exact ⟨⟨y1.1 + 1, by omega⟩, by show 4 - (y1.1 + 1) < 4 - y1.1; omega, by show ((y1.1 + 1 : Nat) : Int) = _; omega, by show (((grTo a b c d key (y1.1 + 1)).getD 0 : Nat) : Int) = _; rw [grTo_off (by assumption)], by show (grTo a b c d key (y1.1 + 1)).isSome = _; rw [grTo_off (by assumption)]⟩
    | exact ⟨⟨y1.1 + 1, by omega⟩, by show 4 - (y1.1 + 1) < 4 - y1.1; omega, by show ((y1.1 + 1 : Nat) : Int) = _; omega, by show (((grTo a b c d key (y1.1 + 1)).getD 0 : Nat) : Int) = _; rw [grTo_miss (by assumption)], by show (grTo a b c d key (y1.1 + 1)).isSome = _; rw [grTo_miss (by assumption)]⟩
    | (rw [grTo_all (by assumption) hy1]; simp; done)
    | (rw [grTo_all (by assumption) hy1] at hq; exact absurd rfl hq)
end Go.Proofs.Ytcmoffcaiepgbaa
