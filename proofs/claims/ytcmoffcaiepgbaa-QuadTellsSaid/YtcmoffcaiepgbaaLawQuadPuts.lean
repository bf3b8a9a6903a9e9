/- QuadPuts: for all words, keys, words to be put the law returns true and turns nothing; condition: the numbers lie within their kinds. -/
import Derived.Test.YtcmoffcaiepgbaaBaseQ
set_option linter.all false
namespace Go.Proofs.Ytcmoffcaiepgbaa
open Go Go.RowKit
set_option maxRecDepth 1000000
set_option maxHeartbeats 0
def kF (key : Int) : Nat → Int
  | 0 => 0
  | i + 1 => 4 * kF key i + dgF key i
def tblQ7 : List (Smry Try.prog XE) := [firstS 25 (fun W => by have h := law_trueR first07 W; exact h), digS, greS]
def upTo (n : Nat) : Type := {k : Nat // k ≤ n}
/-- The greatest digit behind the put. -/
def grAt (a b c d key w : Int) (lv : Nat) : Nat := (grOf (if (dgF key lv).toNat = 0 then w else a) (if (dgF key lv).toNat = 1 then w else b) (if (dgF key lv).toNat = 2 then w else c) (if (dgF key lv).toNat = 3 then w else d) 3).getD 0
def putY3 (g : Nat) : Type := {i : Nat // i ≤ 4 ∧ g < i}
def putL3 (g : Nat) : Scr XE := .inv (liveL [1, 2, 3, 6, 7, 8, 9, 10, 11, 12, 13, 14, 15, 18, 35, 104]) [] (putY3 g) (fun _ y => ([(13, .c (.int false .i64 (y.1 : Int)))], [])) (fun y => 4 - y.1) (fun _ => bN 4)
def putL2 (g : Nat) : Scr XE := .inv (liveL [1, 2, 3, 6, 7, 8, 9, 10, 11, 12, 13, 14, 15, 18, 35, 104]) [] (upTo 4) (fun _ y => ([(35, .c (.int false .i64 (y.1 : Int)))], [])) (fun y => 4 - y.1) (fun _ => .both (bN 6) (.both .nil (.both (.both .nil (putL3 g)) (putL3 g))))
def putL4 (key : Int) : Scr XE := .inv (liveL [1, 6, 14, 15, 104]) [] (upTo 4) (fun _ y => ([(104, .c (.int false .i64 (y.1 : Int))), (14, .c (.int false .i64 (kF key y.1)))], [])) (fun y => 4 - y.1) (fun _ => bN 2)
def putL1 (a b c d key w : Int) : Scr XE := .inv (liveL [1, 2, 3, 6, 7, 8, 9, 10, 11, 12, 13, 14, 15, 18, 35, 104]) [] (upTo 4) (fun _ y => ([(18, .c (.int false .i64 (y.1 : Int)))], [])) (fun y => 4 - y.1) (fun y => .both (putL2 (grAt a b c d key w y.1)) (putL4 key))
theorem grF_some (n : Nat → Int) : ∀ (k g : Nat), grF n k = some g → g < k ∧ n g ≠ 0 ∧ ∀ j, g < j → j < k → n j = 0
  | 0, g, h => by simp [grF] at h
  | k + 1, g, h => by
    unfold grF at h
    split at h
    · rename_i hz
      obtain ⟨h1, h2, h3⟩ := grF_some n k g h
      refine ⟨by omega, h2, fun j hj hk => ?_⟩
      by_cases e : j = k
      · rw [e]; exact hz
      · exact h3 j hj (by omega)
    · rename_i hz
      simp only [Option.some.injEq] at h
      subst h
      exact ⟨by omega, hz, fun j hj hk => by omega⟩
theorem grF_none (n : Nat → Int) : ∀ (k : Nat), grF n k = none → ∀ j, j < k → n j = 0
  | 0, h, j, hj => by omega
  | k + 1, h, j, hj => by
    unfold grF at h
    split at h
    · rename_i hz
      by_cases e : j = k
      · rw [e]; exact hz
      · exact grF_none n k h j (by omega)
    · cases h
theorem lt4 {i : Nat} (h : i < 4) : i = 0 ∨ i = 1 ∨ i = 2 ∨ i = 3 := by omega
theorem kF_bd (key : Int) (hk : 0 ≤ key ∧ key ≤ 255) : ∀ i, i ≤ 4 → 0 ≤ kF key i ∧ kF key i ≤ 255 := by
  intro i hi
  have h0 := dgF_bd key 0
  have h1 := dgF_bd key 1
  have h2 := dgF_bd key 2
  have h3 := dgF_bd key 3
  have e : i = 0 ∨ i = 1 ∨ i = 2 ∨ i = 3 ∨ i = 4 := by omega
  rcases e with rfl | rfl | rfl | rfl | rfl <;> simp only [kF] <;> simp <;> omega
theorem kF_key (key : Int) (hk : 0 ≤ key ∧ key ≤ 255) : kF key 4 = key := by
  have e : ∀ l : Int, 0 ≤ l → l ≤ 3 → dgF key l = key / ((2 ^ (2 * (3 - l)).toNat : Nat) : Int) % 4 := fun l h1 h2 => by unfold dgF; rw [if_neg (by omega)]
  simp only [kF]
  have e0 := e 0 (by omega) (by omega)
  have e1 := e 1 (by omega) (by omega)
  have e2 := e 2 (by omega) (by omega)
  have e3 := e 3 (by omega) (by omega)
  rw [show (((2 ^ (2 * (3 - (0 : Int))).toNat : Nat) : Nat) : Int) = 64 by decide] at e0
  rw [show (((2 ^ (2 * (3 - (1 : Int))).toNat : Nat) : Nat) : Int) = 16 by decide] at e1
  rw [show (((2 ^ (2 * (3 - (2 : Int))).toNat : Nat) : Nat) : Int) = 4 by decide] at e2
  rw [show (((2 ^ (2 * (3 - (3 : Int))).toNat : Nat) : Nat) : Int) = 1 by decide] at e3
  simp only [show ((0 : Nat) : Int) = 0 from rfl, show ((1 : Nat) : Int) = 1 from rfl, show ((2 : Nat) : Int) = 2 from rfl, show ((3 : Nat) : Int) = 3 from rfl, e0, e1, e2, e3]
  omega
theorem grOf_3 (a b c d : Int) : grOf a b c d 3 = grF (nodeN a b c d) 4 := rfl
theorem gr_tell (a b c d : Int) : (grOf a b c d 3).isSome = (false == (a == 0 && (b == 0 && (c == 0 && (d == 0 && true))))) := by
  rw [grOf_3]
  cases h : grF (nodeN a b c d) 4 with
  | none =>
    have := grF_none _ _ h
    have h0 := this 0 (by omega)
    have h1 := this 1 (by omega)
    have h2 := this 2 (by omega)
    have h3 := this 3 (by omega)
    simp only [nodeN, List.getD_cons_zero, List.getD_cons_succ] at h0 h1 h2 h3
    subst h0 h1 h2 h3
    rfl
  | some g =>
    obtain ⟨h1, h2, _⟩ := grF_some _ _ _ h
    rcases lt4 h1 with rfl | rfl | rfl | rfl <;> simp only [nodeN, List.getD_cons_zero, List.getD_cons_succ] at h2 <;> simp [h2]
theorem gr_ne {a b c d : Int} (h : (grOf a b c d 3).isSome = true) : [a, b, c, d].getD ((grOf a b c d 3).getD 0) 0 ≠ 0 := by
  rw [grOf_3] at *
  cases hg : grF (nodeN a b c d) 4 with
  | none => rw [hg] at h; cases h
  | some g => exact (grF_some _ _ _ hg).2.1
theorem gr_zero {a b c d : Int} (h : (grOf a b c d 3).isSome = true) {i : Nat} (h1 : (grOf a b c d 3).getD 0 < i) (h2 : i < 4) : [a, b, c, d].getD i 0 = 0 := by
  rw [grOf_3] at *
  cases hg : grF (nodeN a b c d) 4 with
  | none => rw [hg] at h; cases h
  | some g => rw [hg] at h1; exact (grF_some _ _ _ hg).2.2 i h1 h2
theorem gr_lt (a b c d : Int) : (grOf a b c d 3).getD 0 < 4 := by
  rw [grOf_3]
  cases hg : grF (nodeN a b c d) 4 with
  | none => simp
  | some g => exact (grF_some _ _ _ hg).1
theorem put_at (a b c d w : Int) {k dd : Nat} (e : k = dd) (h : k < 4) : [if dd = 0 then w else a, if dd = 1 then w else b, if dd = 2 then w else c, if dd = 3 then w else d].getD k 0 = w := by
  subst e
  rcases lt4 h with rfl | rfl | rfl | rfl <;> simp
theorem put_off (a b c d w : Int) {k dd : Nat} (e : k ≠ dd) (h : k < 4) : [if dd = 0 then w else a, if dd = 1 then w else b, if dd = 2 then w else c, if dd = 3 then w else d].getD k 0 = [a, b, c, d].getD k 0 := by
  rcases lt4 h with rfl | rfl | rfl | rfl <;> simp [Ne.symm e]
/-- What the executor leaves to be shown of roundelay/roundelaylaw07.QuadPuts, written out. -/
theorem quadPuts_vc (a b c d key w : Int) (hk : 0 ≤ key ∧ key ≤ 255) : (callN Try.prog (tblQ7 : List (Smry Try.prog XE)) (fun _ _ => false) 100 20 6 [.agg [.int false .u64 a, .int false .u64 b, .int false .u64 c, .int false .u64 d], .c (.int false .u8 key (.w 0 255 hk)), .c (.int false .u64 w)] ⟨[], 0⟩ (putL1 a b c d key w) (fun v _ _ => retTrue v)) = (
    (∃ (y : upTo (4 : Nat)), key = key ∧ w = w ∧ a = a ∧ b = b ∧ c = c ∧ d = d ∧ (↑y.val : Int) = (0 : Int) ∧ True) ∧ ∀ (y : upTo (4 : Nat)) (ρ : Nat → Value), (decide ((↑y.val : Int) <
    (4 : Int)) = true → True ∧ (∀ (z : Un), True → ((0 : Int) ≤ dgF key (↑y.val : Int) ∧ dgF key (↑y.val : Int) < (4 : Int)) ∧ (dgF key (↑y.val : Int)).toNat < (4 : Nat) ∧ (∃ (y_1 :
    upTo (4 : Nat)), key = key ∧ w = w ∧ (↑y.val : Int) = (↑y.val : Int) ∧ dgF key (↑y.val : Int) = dgF key (↑y.val : Int) ∧ ρ ((0 : Nat) + (1 : Nat) + (2 : Nat) * (1 : Nat) + (2 : Nat)
    * ((2 : Nat) * ((2 : Nat) * (1 : Nat)))) = ρ ((0 : Nat) + (1 : Nat) + (2 : Nat) * (1 : Nat) + (2 : Nat) * ((2 : Nat) * ((2 : Nat) * (1 : Nat)))) ∧ ρ ((0 : Nat) + (2 : Nat) * (1 :
    Nat) + (2 : Nat) * (1 : Nat) + (2 : Nat) * ((2 : Nat) * ((2 : Nat) * (1 : Nat)))) = ρ ((0 : Nat) + (2 : Nat) * (1 : Nat) + (2 : Nat) * (1 : Nat) + (2 : Nat) * ((2 : Nat) * ((2 :
    Nat) * (1 : Nat)))) ∧ ρ ((0 : Nat) + (1 : Nat) + (2 : Nat) * ((2 : Nat) * (1 : Nat)) + (2 : Nat) * ((2 : Nat) * ((2 : Nat) * (1 : Nat)))) = ρ ((0 : Nat) + (1 : Nat) + (2 : Nat) *
    ((2 : Nat) * (1 : Nat)) + (2 : Nat) * ((2 : Nat) * ((2 : Nat) * (1 : Nat)))) ∧ (↑y.val : Int) = (↑y.val : Int) ∧ a = a ∧ b = b ∧ c = c ∧ d = d ∧ ((if (dgF key (↑y.val : Int)).toNat
    = (0 : Nat) then w else a) = if (dgF key (↑y.val : Int)).toNat = (0 : Nat) then w else a) ∧ ((if (dgF key (↑y.val : Int)).toNat = (1 : Nat) then w else b) = if (dgF key (↑y.val :
    Int)).toNat = (1 : Nat) then w else b) ∧ ((if (dgF key (↑y.val : Int)).toNat = (2 : Nat) then w else c) = if (dgF key (↑y.val : Int)).toNat = (2 : Nat) then w else c) ∧ ((if (dgF
    key (↑y.val : Int)).toNat = (3 : Nat) then w else d) = if (dgF key (↑y.val : Int)).toNat = (3 : Nat) then w else d) ∧ ((if (dgF key (↑y.val : Int)).toNat = (0 : Nat) then w else a)
    = if (dgF key (↑y.val : Int)).toNat = (0 : Nat) then w else a) ∧ ((if (dgF key (↑y.val : Int)).toNat = (1 : Nat) then w else b) = if (dgF key (↑y.val : Int)).toNat = (1 : Nat) then
    w else b) ∧ ((if (dgF key (↑y.val : Int)).toNat = (2 : Nat) then w else c) = if (dgF key (↑y.val : Int)).toNat = (2 : Nat) then w else c) ∧ ((if (dgF key (↑y.val : Int)).toNat = (3
    : Nat) then w else d) = if (dgF key (↑y.val : Int)).toNat = (3 : Nat) then w else d) ∧ ((if (dgF key (↑y.val : Int)).toNat = (0 : Nat) then w else a) = if (dgF key (↑y.val :
    Int)).toNat = (0 : Nat) then w else a) ∧ ((if (dgF key (↑y.val : Int)).toNat = (1 : Nat) then w else b) = if (dgF key (↑y.val : Int)).toNat = (1 : Nat) then w else b) ∧ ((if (dgF
    key (↑y.val : Int)).toNat = (2 : Nat) then w else c) = if (dgF key (↑y.val : Int)).toNat = (2 : Nat) then w else c) ∧ ((if (dgF key (↑y.val : Int)).toNat = (3 : Nat) then w else d)
    = if (dgF key (↑y.val : Int)).toNat = (3 : Nat) then w else d) ∧ (↑y_1.val : Int) = (0 : Int) ∧ True) ∧ ∀ (y_1 : upTo (4 : Nat)) (ρ_1 : Nat → Value), (decide ((↑y_1.val : Int) < (4
    : Int)) = true → (((↑y_1.val : Int) == dgF key (↑y.val : Int)) = true → ((0 : Int) ≤ (↑y_1.val : Int) ∧ (↑y_1.val : Int) < (4 : Int)) ∧ (↑y_1.val : Int).toNat < (4 : Nat) ∧ (([if
    (dgF key (↑y.val : Int)).toNat = (0 : Nat) then w else a, if (dgF key (↑y.val : Int)).toNat = (1 : Nat) then w else b, if (dgF key (↑y.val : Int)).toNat = (2 : Nat) then w else c,
    if (dgF key (↑y.val : Int)).toNat = (3 : Nat) then w else d].getD (↑y_1.val : Int).toNat (0 : Int) != w) = true → false = true) ∧ (([if (dgF key (↑y.val : Int)).toNat = (0 : Nat)
    then w else a, if (dgF key (↑y.val : Int)).toNat = (1 : Nat) then w else b, if (dgF key (↑y.val : Int)).toNat = (2 : Nat) then w else c, if (dgF key (↑y.val : Int)).toNat = (3 :
    Nat) then w else d].getD (↑y_1.val : Int).toNat (0 : Int) != w) = false → (((↑y_1.val : Int) != dgF key (↑y.val : Int)) = true → ((0 : Int) ≤ (↑y_1.val : Int) ∧ (↑y_1.val : Int) <
    (4 : Int)) ∧ (↑y_1.val : Int).toNat < (4 : Nat) ∧ ((0 : Int) ≤ (↑y_1.val : Int) ∧ (↑y_1.val : Int) < (4 : Int)) ∧ (↑y_1.val : Int).toNat < (4 : Nat) ∧ (([if (dgF key (↑y.val :
    Int)).toNat = (0 : Nat) then w else a, if (dgF key (↑y.val : Int)).toNat = (1 : Nat) then w else b, if (dgF key (↑y.val : Int)).toNat = (2 : Nat) then w else c, if (dgF key (↑y.val
    : Int)).toNat = (3 : Nat) then w else d].getD (↑y_1.val : Int).toNat (0 : Int) != [a, b, c, d].getD (↑y_1.val : Int).toNat (0 : Int)) = true → false = true) ∧ (([if (dgF key (↑y.val
    : Int)).toNat = (0 : Nat) then w else a, if (dgF key (↑y.val : Int)).toNat = (1 : Nat) then w else b, if (dgF key (↑y.val : Int)).toNat = (2 : Nat) then w else c, if (dgF key
    (↑y.val : Int)).toNat = (3 : Nat) then w else d].getD (↑y_1.val : Int).toNat (0 : Int) != [a, b, c, d].getD (↑y_1.val : Int).toNat (0 : Int)) = false → ((-9223372036854775808 : Int)
    ≤ (↑y_1.val : Int) + (1 : Int) ∧ (↑y_1.val : Int) + (1 : Int) ≤ (9223372036854775807 : Int)) ∧ ∃ (y' : upTo (4 : Nat)), (4 : Nat) - y'.val < (4 : Nat) - y_1.val ∧ key = key ∧ w = w
    ∧ (↑y.val : Int) = (↑y.val : Int) ∧ dgF key (↑y.val : Int) = dgF key (↑y.val : Int) ∧ ρ ((0 : Nat) + (1 : Nat) + (2 : Nat) * (1 : Nat) + (2 : Nat) * ((2 : Nat) * ((2 : Nat) * (1 :
    Nat)))) = ρ ((0 : Nat) + (1 : Nat) + (2 : Nat) * (1 : Nat) + (2 : Nat) * ((2 : Nat) * ((2 : Nat) * (1 : Nat)))) ∧ ρ ((0 : Nat) + (2 : Nat) * (1 : Nat) + (2 : Nat) * (1 : Nat) + (2 :
    Nat) * ((2 : Nat) * ((2 : Nat) * (1 : Nat)))) = ρ ((0 : Nat) + (2 : Nat) * (1 : Nat) + (2 : Nat) * (1 : Nat) + (2 : Nat) * ((2 : Nat) * ((2 : Nat) * (1 : Nat)))) ∧ ρ ((0 : Nat) + (1
    : Nat) + (2 : Nat) * ((2 : Nat) * (1 : Nat)) + (2 : Nat) * ((2 : Nat) * ((2 : Nat) * (1 : Nat)))) = ρ ((0 : Nat) + (1 : Nat) + (2 : Nat) * ((2 : Nat) * (1 : Nat)) + (2 : Nat) * ((2
    : Nat) * ((2 : Nat) * (1 : Nat)))) ∧ (↑y.val : Int) = (↑y.val : Int) ∧ a = a ∧ b = b ∧ c = c ∧ d = d ∧ ((if (dgF key (↑y.val : Int)).toNat = (0 : Nat) then w else a) = if (dgF key
    (↑y.val : Int)).toNat = (0 : Nat) then w else a) ∧ ((if (dgF key (↑y.val : Int)).toNat = (1 : Nat) then w else b) = if (dgF key (↑y.val : Int)).toNat = (1 : Nat) then w else b) ∧
    ((if (dgF key (↑y.val : Int)).toNat = (2 : Nat) then w else c) = if (dgF key (↑y.val : Int)).toNat = (2 : Nat) then w else c) ∧ ((if (dgF key (↑y.val : Int)).toNat = (3 : Nat) then
    w else d) = if (dgF key (↑y.val : Int)).toNat = (3 : Nat) then w else d) ∧ ((if (dgF key (↑y.val : Int)).toNat = (0 : Nat) then w else a) = if (dgF key (↑y.val : Int)).toNat = (0 :
    Nat) then w else a) ∧ ((if (dgF key (↑y.val : Int)).toNat = (1 : Nat) then w else b) = if (dgF key (↑y.val : Int)).toNat = (1 : Nat) then w else b) ∧ ((if (dgF key (↑y.val :
    Int)).toNat = (2 : Nat) then w else c) = if (dgF key (↑y.val : Int)).toNat = (2 : Nat) then w else c) ∧ ((if (dgF key (↑y.val : Int)).toNat = (3 : Nat) then w else d) = if (dgF key
    (↑y.val : Int)).toNat = (3 : Nat) then w else d) ∧ ((if (dgF key (↑y.val : Int)).toNat = (0 : Nat) then w else a) = if (dgF key (↑y.val : Int)).toNat = (0 : Nat) then w else a) ∧
    ((if (dgF key (↑y.val : Int)).toNat = (1 : Nat) then w else b) = if (dgF key (↑y.val : Int)).toNat = (1 : Nat) then w else b) ∧ ((if (dgF key (↑y.val : Int)).toNat = (2 : Nat) then
    w else c) = if (dgF key (↑y.val : Int)).toNat = (2 : Nat) then w else c) ∧ ((if (dgF key (↑y.val : Int)).toNat = (3 : Nat) then w else d) = if (dgF key (↑y.val : Int)).toNat = (3 :
    Nat) then w else d) ∧ (↑y'.val : Int) = (↑y_1.val : Int) + (1 : Int) ∧ True)) ∧ (((↑y_1.val : Int) != dgF key (↑y.val : Int)) = false → ((-9223372036854775808 : Int) ≤ (↑y_1.val :
    Int) + (1 : Int) ∧ (↑y_1.val : Int) + (1 : Int) ≤ (9223372036854775807 : Int)) ∧ ∃ (y' : upTo (4 : Nat)), (4 : Nat) - y'.val < (4 : Nat) - y_1.val ∧ key = key ∧ w = w ∧ (↑y.val :
    Int) = (↑y.val : Int) ∧ dgF key (↑y.val : Int) = dgF key (↑y.val : Int) ∧ ρ ((0 : Nat) + (1 : Nat) + (2 : Nat) * (1 : Nat) + (2 : Nat) * ((2 : Nat) * ((2 : Nat) * (1 : Nat)))) = ρ
    ((0 : Nat) + (1 : Nat) + (2 : Nat) * (1 : Nat) + (2 : Nat) * ((2 : Nat) * ((2 : Nat) * (1 : Nat)))) ∧ ρ ((0 : Nat) + (2 : Nat) * (1 : Nat) + (2 : Nat) * (1 : Nat) + (2 : Nat) * ((2
    : Nat) * ((2 : Nat) * (1 : Nat)))) = ρ ((0 : Nat) + (2 : Nat) * (1 : Nat) + (2 : Nat) * (1 : Nat) + (2 : Nat) * ((2 : Nat) * ((2 : Nat) * (1 : Nat)))) ∧ ρ ((0 : Nat) + (1 : Nat) +
    (2 : Nat) * ((2 : Nat) * (1 : Nat)) + (2 : Nat) * ((2 : Nat) * ((2 : Nat) * (1 : Nat)))) = ρ ((0 : Nat) + (1 : Nat) + (2 : Nat) * ((2 : Nat) * (1 : Nat)) + (2 : Nat) * ((2 : Nat) *
    ((2 : Nat) * (1 : Nat)))) ∧ (↑y.val : Int) = (↑y.val : Int) ∧ a = a ∧ b = b ∧ c = c ∧ d = d ∧ ((if (dgF key (↑y.val : Int)).toNat = (0 : Nat) then w else a) = if (dgF key (↑y.val :
    Int)).toNat = (0 : Nat) then w else a) ∧ ((if (dgF key (↑y.val : Int)).toNat = (1 : Nat) then w else b) = if (dgF key (↑y.val : Int)).toNat = (1 : Nat) then w else b) ∧ ((if (dgF
    key (↑y.val : Int)).toNat = (2 : Nat) then w else c) = if (dgF key (↑y.val : Int)).toNat = (2 : Nat) then w else c) ∧ ((if (dgF key (↑y.val : Int)).toNat = (3 : Nat) then w else d)
    = if (dgF key (↑y.val : Int)).toNat = (3 : Nat) then w else d) ∧ ((if (dgF key (↑y.val : Int)).toNat = (0 : Nat) then w else a) = if (dgF key (↑y.val : Int)).toNat = (0 : Nat) then
    w else a) ∧ ((if (dgF key (↑y.val : Int)).toNat = (1 : Nat) then w else b) = if (dgF key (↑y.val : Int)).toNat = (1 : Nat) then w else b) ∧ ((if (dgF key (↑y.val : Int)).toNat = (2
    : Nat) then w else c) = if (dgF key (↑y.val : Int)).toNat = (2 : Nat) then w else c) ∧ ((if (dgF key (↑y.val : Int)).toNat = (3 : Nat) then w else d) = if (dgF key (↑y.val :
    Int)).toNat = (3 : Nat) then w else d) ∧ ((if (dgF key (↑y.val : Int)).toNat = (0 : Nat) then w else a) = if (dgF key (↑y.val : Int)).toNat = (0 : Nat) then w else a) ∧ ((if (dgF
    key (↑y.val : Int)).toNat = (1 : Nat) then w else b) = if (dgF key (↑y.val : Int)).toNat = (1 : Nat) then w else b) ∧ ((if (dgF key (↑y.val : Int)).toNat = (2 : Nat) then w else c)
    = if (dgF key (↑y.val : Int)).toNat = (2 : Nat) then w else c) ∧ ((if (dgF key (↑y.val : Int)).toNat = (3 : Nat) then w else d) = if (dgF key (↑y.val : Int)).toNat = (3 : Nat) then
    w else d) ∧ (↑y'.val : Int) = (↑y_1.val : Int) + (1 : Int) ∧ True))) ∧ (((↑y_1.val : Int) == dgF key (↑y.val : Int)) = false → (((↑y_1.val : Int) != dgF key (↑y.val : Int)) = true →
    ((0 : Int) ≤ (↑y_1.val : Int) ∧ (↑y_1.val : Int) < (4 : Int)) ∧ (↑y_1.val : Int).toNat < (4 : Nat) ∧ ((0 : Int) ≤ (↑y_1.val : Int) ∧ (↑y_1.val : Int) < (4 : Int)) ∧ (↑y_1.val :
    Int).toNat < (4 : Nat) ∧ (([if (dgF key (↑y.val : Int)).toNat = (0 : Nat) then w else a, if (dgF key (↑y.val : Int)).toNat = (1 : Nat) then w else b, if (dgF key (↑y.val :
    Int)).toNat = (2 : Nat) then w else c, if (dgF key (↑y.val : Int)).toNat = (3 : Nat) then w else d].getD (↑y_1.val : Int).toNat (0 : Int) != [a, b, c, d].getD (↑y_1.val : Int).toNat
    (0 : Int)) = true → false = true) ∧ (([if (dgF key (↑y.val : Int)).toNat = (0 : Nat) then w else a, if (dgF key (↑y.val : Int)).toNat = (1 : Nat) then w else b, if (dgF key (↑y.val
    : Int)).toNat = (2 : Nat) then w else c, if (dgF key (↑y.val : Int)).toNat = (3 : Nat) then w else d].getD (↑y_1.val : Int).toNat (0 : Int) != [a, b, c, d].getD (↑y_1.val :
    Int).toNat (0 : Int)) = false → ((-9223372036854775808 : Int) ≤ (↑y_1.val : Int) + (1 : Int) ∧ (↑y_1.val : Int) + (1 : Int) ≤ (9223372036854775807 : Int)) ∧ ∃ (y' : upTo (4 : Nat)),
    (4 : Nat) - y'.val < (4 : Nat) - y_1.val ∧ key = key ∧ w = w ∧ (↑y.val : Int) = (↑y.val : Int) ∧ dgF key (↑y.val : Int) = dgF key (↑y.val : Int) ∧ ρ ((0 : Nat) + (1 : Nat) + (2 :
    Nat) * (1 : Nat) + (2 : Nat) * ((2 : Nat) * ((2 : Nat) * (1 : Nat)))) = ρ ((0 : Nat) + (1 : Nat) + (2 : Nat) * (1 : Nat) + (2 : Nat) * ((2 : Nat) * ((2 : Nat) * (1 : Nat)))) ∧ ρ ((0
    : Nat) + (2 : Nat) * (1 : Nat) + (2 : Nat) * (1 : Nat) + (2 : Nat) * ((2 : Nat) * ((2 : Nat) * (1 : Nat)))) = ρ ((0 : Nat) + (2 : Nat) * (1 : Nat) + (2 : Nat) * (1 : Nat) + (2 :
    Nat) * ((2 : Nat) * ((2 : Nat) * (1 : Nat)))) ∧ ρ ((0 : Nat) + (1 : Nat) + (2 : Nat) * ((2 : Nat) * (1 : Nat)) + (2 : Nat) * ((2 : Nat) * ((2 : Nat) * (1 : Nat)))) = ρ ((0 : Nat) +
    (1 : Nat) + (2 : Nat) * ((2 : Nat) * (1 : Nat)) + (2 : Nat) * ((2 : Nat) * ((2 : Nat) * (1 : Nat)))) ∧ (↑y.val : Int) = (↑y.val : Int) ∧ a = a ∧ b = b ∧ c = c ∧ d = d ∧ ((if (dgF
    key (↑y.val : Int)).toNat = (0 : Nat) then w else a) = if (dgF key (↑y.val : Int)).toNat = (0 : Nat) then w else a) ∧ ((if (dgF key (↑y.val : Int)).toNat = (1 : Nat) then w else b)
    = if (dgF key (↑y.val : Int)).toNat = (1 : Nat) then w else b) ∧ ((if (dgF key (↑y.val : Int)).toNat = (2 : Nat) then w else c) = if (dgF key (↑y.val : Int)).toNat = (2 : Nat) then
    w else c) ∧ ((if (dgF key (↑y.val : Int)).toNat = (3 : Nat) then w else d) = if (dgF key (↑y.val : Int)).toNat = (3 : Nat) then w else d) ∧ ((if (dgF key (↑y.val : Int)).toNat = (0
    : Nat) then w else a) = if (dgF key (↑y.val : Int)).toNat = (0 : Nat) then w else a) ∧ ((if (dgF key (↑y.val : Int)).toNat = (1 : Nat) then w else b) = if (dgF key (↑y.val :
    Int)).toNat = (1 : Nat) then w else b) ∧ ((if (dgF key (↑y.val : Int)).toNat = (2 : Nat) then w else c) = if (dgF key (↑y.val : Int)).toNat = (2 : Nat) then w else c) ∧ ((if (dgF
    key (↑y.val : Int)).toNat = (3 : Nat) then w else d) = if (dgF key (↑y.val : Int)).toNat = (3 : Nat) then w else d) ∧ ((if (dgF key (↑y.val : Int)).toNat = (0 : Nat) then w else a)
    = if (dgF key (↑y.val : Int)).toNat = (0 : Nat) then w else a) ∧ ((if (dgF key (↑y.val : Int)).toNat = (1 : Nat) then w else b) = if (dgF key (↑y.val : Int)).toNat = (1 : Nat) then
    w else b) ∧ ((if (dgF key (↑y.val : Int)).toNat = (2 : Nat) then w else c) = if (dgF key (↑y.val : Int)).toNat = (2 : Nat) then w else c) ∧ ((if (dgF key (↑y.val : Int)).toNat = (3
    : Nat) then w else d) = if (dgF key (↑y.val : Int)).toNat = (3 : Nat) then w else d) ∧ (↑y'.val : Int) = (↑y_1.val : Int) + (1 : Int) ∧ True)) ∧ (((↑y_1.val : Int) != dgF key
    (↑y.val : Int)) = false → ((-9223372036854775808 : Int) ≤ (↑y_1.val : Int) + (1 : Int) ∧ (↑y_1.val : Int) + (1 : Int) ≤ (9223372036854775807 : Int)) ∧ ∃ (y' : upTo (4 : Nat)), (4 :
    Nat) - y'.val < (4 : Nat) - y_1.val ∧ key = key ∧ w = w ∧ (↑y.val : Int) = (↑y.val : Int) ∧ dgF key (↑y.val : Int) = dgF key (↑y.val : Int) ∧ ρ ((0 : Nat) + (1 : Nat) + (2 : Nat) *
    (1 : Nat) + (2 : Nat) * ((2 : Nat) * ((2 : Nat) * (1 : Nat)))) = ρ ((0 : Nat) + (1 : Nat) + (2 : Nat) * (1 : Nat) + (2 : Nat) * ((2 : Nat) * ((2 : Nat) * (1 : Nat)))) ∧ ρ ((0 : Nat)
    + (2 : Nat) * (1 : Nat) + (2 : Nat) * (1 : Nat) + (2 : Nat) * ((2 : Nat) * ((2 : Nat) * (1 : Nat)))) = ρ ((0 : Nat) + (2 : Nat) * (1 : Nat) + (2 : Nat) * (1 : Nat) + (2 : Nat) * ((2
    : Nat) * ((2 : Nat) * (1 : Nat)))) ∧ ρ ((0 : Nat) + (1 : Nat) + (2 : Nat) * ((2 : Nat) * (1 : Nat)) + (2 : Nat) * ((2 : Nat) * ((2 : Nat) * (1 : Nat)))) = ρ ((0 : Nat) + (1 : Nat) +
    (2 : Nat) * ((2 : Nat) * (1 : Nat)) + (2 : Nat) * ((2 : Nat) * ((2 : Nat) * (1 : Nat)))) ∧ (↑y.val : Int) = (↑y.val : Int) ∧ a = a ∧ b = b ∧ c = c ∧ d = d ∧ ((if (dgF key (↑y.val :
    Int)).toNat = (0 : Nat) then w else a) = if (dgF key (↑y.val : Int)).toNat = (0 : Nat) then w else a) ∧ ((if (dgF key (↑y.val : Int)).toNat = (1 : Nat) then w else b) = if (dgF key
    (↑y.val : Int)).toNat = (1 : Nat) then w else b) ∧ ((if (dgF key (↑y.val : Int)).toNat = (2 : Nat) then w else c) = if (dgF key (↑y.val : Int)).toNat = (2 : Nat) then w else c) ∧
    ((if (dgF key (↑y.val : Int)).toNat = (3 : Nat) then w else d) = if (dgF key (↑y.val : Int)).toNat = (3 : Nat) then w else d) ∧ ((if (dgF key (↑y.val : Int)).toNat = (0 : Nat) then
    w else a) = if (dgF key (↑y.val : Int)).toNat = (0 : Nat) then w else a) ∧ ((if (dgF key (↑y.val : Int)).toNat = (1 : Nat) then w else b) = if (dgF key (↑y.val : Int)).toNat = (1 :
    Nat) then w else b) ∧ ((if (dgF key (↑y.val : Int)).toNat = (2 : Nat) then w else c) = if (dgF key (↑y.val : Int)).toNat = (2 : Nat) then w else c) ∧ ((if (dgF key (↑y.val :
    Int)).toNat = (3 : Nat) then w else d) = if (dgF key (↑y.val : Int)).toNat = (3 : Nat) then w else d) ∧ ((if (dgF key (↑y.val : Int)).toNat = (0 : Nat) then w else a) = if (dgF key
    (↑y.val : Int)).toNat = (0 : Nat) then w else a) ∧ ((if (dgF key (↑y.val : Int)).toNat = (1 : Nat) then w else b) = if (dgF key (↑y.val : Int)).toNat = (1 : Nat) then w else b) ∧
    ((if (dgF key (↑y.val : Int)).toNat = (2 : Nat) then w else c) = if (dgF key (↑y.val : Int)).toNat = (2 : Nat) then w else c) ∧ ((if (dgF key (↑y.val : Int)).toNat = (3 : Nat) then
    w else d) = if (dgF key (↑y.val : Int)).toNat = (3 : Nat) then w else d) ∧ (↑y'.val : Int) = (↑y_1.val : Int) + (1 : Int) ∧ True))) ∧ (decide ((↑y_1.val : Int) < (4 : Int)) = false
    → True ∧ (∀ (z : Un), True → ((false == ((grOf (if (dgF key (↑y.val : Int)).toNat = (0 : Nat) then w else a) (if (dgF key (↑y.val : Int)).toNat = (1 : Nat) then w else b) (if (dgF
    key (↑y.val : Int)).toNat = (2 : Nat) then w else c) (if (dgF key (↑y.val : Int)).toNat = (3 : Nat) then w else d) (3 : Int)).isSome == (false == ((if (dgF key (↑y.val : Int)).toNat
    = (0 : Nat) then w else a) == (0 : Int) && ((if (dgF key (↑y.val : Int)).toNat = (1 : Nat) then w else b) == (0 : Int) && ((if (dgF key (↑y.val : Int)).toNat = (2 : Nat) then w else
    c) == (0 : Int) && ((if (dgF key (↑y.val : Int)).toNat = (3 : Nat) then w else d) == (0 : Int) && true))))))) = true → false = true) ∧ ((false == ((grOf (if (dgF key (↑y.val :
    Int)).toNat = (0 : Nat) then w else a) (if (dgF key (↑y.val : Int)).toNat = (1 : Nat) then w else b) (if (dgF key (↑y.val : Int)).toNat = (2 : Nat) then w else c) (if (dgF key
    (↑y.val : Int)).toNat = (3 : Nat) then w else d) (3 : Int)).isSome == (false == ((if (dgF key (↑y.val : Int)).toNat = (0 : Nat) then w else a) == (0 : Int) && ((if (dgF key (↑y.val
    : Int)).toNat = (1 : Nat) then w else b) == (0 : Int) && ((if (dgF key (↑y.val : Int)).toNat = (2 : Nat) then w else c) == (0 : Int) && ((if (dgF key (↑y.val : Int)).toNat = (3 :
    Nat) then w else d) == (0 : Int) && true))))))) = false → ((grOf (if (dgF key (↑y.val : Int)).toNat = (0 : Nat) then w else a) (if (dgF key (↑y.val : Int)).toNat = (1 : Nat) then w
    else b) (if (dgF key (↑y.val : Int)).toNat = (2 : Nat) then w else c) (if (dgF key (↑y.val : Int)).toNat = (3 : Nat) then w else d) (3 : Int)).isSome = true → ((0 : Int) ≤ (↑((grOf
    (if (dgF key (↑y.val : Int)).toNat = (0 : Nat) then w else a) (if (dgF key (↑y.val : Int)).toNat = (1 : Nat) then w else b) (if (dgF key (↑y.val : Int)).toNat = (2 : Nat) then w
    else c) (if (dgF key (↑y.val : Int)).toNat = (3 : Nat) then w else d) (3 : Int)).getD (0 : Nat)) : Int) ∧ (↑((grOf (if (dgF key (↑y.val : Int)).toNat = (0 : Nat) then w else a) (if
    (dgF key (↑y.val : Int)).toNat = (1 : Nat) then w else b) (if (dgF key (↑y.val : Int)).toNat = (2 : Nat) then w else c) (if (dgF key (↑y.val : Int)).toNat = (3 : Nat) then w else d)
    (3 : Int)).getD (0 : Nat)) : Int) < (4 : Int)) ∧ (↑((grOf (if (dgF key (↑y.val : Int)).toNat = (0 : Nat) then w else a) (if (dgF key (↑y.val : Int)).toNat = (1 : Nat) then w else b)
    (if (dgF key (↑y.val : Int)).toNat = (2 : Nat) then w else c) (if (dgF key (↑y.val : Int)).toNat = (3 : Nat) then w else d) (3 : Int)).getD (0 : Nat)) : Int).toNat < (4 : Nat) ∧
    (([if (dgF key (↑y.val : Int)).toNat = (0 : Nat) then w else a, if (dgF key (↑y.val : Int)).toNat = (1 : Nat) then w else b, if (dgF key (↑y.val : Int)).toNat = (2 : Nat) then w
    else c, if (dgF key (↑y.val : Int)).toNat = (3 : Nat) then w else d].getD (↑((grOf (if (dgF key (↑y.val : Int)).toNat = (0 : Nat) then w else a) (if (dgF key (↑y.val : Int)).toNat =
    (1 : Nat) then w else b) (if (dgF key (↑y.val : Int)).toNat = (2 : Nat) then w else c) (if (dgF key (↑y.val : Int)).toNat = (3 : Nat) then w else d) (3 : Int)).getD (0 : Nat)) :
    Int).toNat (0 : Int) == (0 : Int)) = true → false = true) ∧ (([if (dgF key (↑y.val : Int)).toNat = (0 : Nat) then w else a, if (dgF key (↑y.val : Int)).toNat = (1 : Nat) then w else
    b, if (dgF key (↑y.val : Int)).toNat = (2 : Nat) then w else c, if (dgF key (↑y.val : Int)).toNat = (3 : Nat) then w else d].getD (↑((grOf (if (dgF key (↑y.val : Int)).toNat = (0 :
    Nat) then w else a) (if (dgF key (↑y.val : Int)).toNat = (1 : Nat) then w else b) (if (dgF key (↑y.val : Int)).toNat = (2 : Nat) then w else c) (if (dgF key (↑y.val : Int)).toNat =
    (3 : Nat) then w else d) (3 : Int)).getD (0 : Nat)) : Int).toNat (0 : Int) == (0 : Int)) = false → (∃ (y_2 : putY3 (grAt a b c d key w y.val)), key = key ∧ w = w ∧ (↑y.val : Int) =
    (↑y.val : Int) ∧ dgF key (↑y.val : Int) = dgF key (↑y.val : Int) ∧ ρ_1 ((0 : Nat) + (2 : Nat) * (1 : Nat) + (2 : Nat) * ((2 : Nat) * (1 : Nat)) + (2 : Nat) * ((2 : Nat) * (1 :
    Nat))) = ρ_1 ((0 : Nat) + (2 : Nat) * (1 : Nat) + (2 : Nat) * ((2 : Nat) * (1 : Nat)) + (2 : Nat) * ((2 : Nat) * (1 : Nat))) ∧ (↑((grOf (if (dgF key (↑y.val : Int)).toNat = (0 :
    Nat) then w else a) (if (dgF key (↑y.val : Int)).toNat = (1 : Nat) then w else b) (if (dgF key (↑y.val : Int)).toNat = (2 : Nat) then w else c) (if (dgF key (↑y.val : Int)).toNat =
    (3 : Nat) then w else d) (3 : Int)).getD (0 : Nat)) : Int) = (↑((grOf (if (dgF key (↑y.val : Int)).toNat = (0 : Nat) then w else a) (if (dgF key (↑y.val : Int)).toNat = (1 : Nat)
    then w else b) (if (dgF key (↑y.val : Int)).toNat = (2 : Nat) then w else c) (if (dgF key (↑y.val : Int)).toNat = (3 : Nat) then w else d) (3 : Int)).getD (0 : Nat)) : Int) ∧ (grOf
    (if (dgF key (↑y.val : Int)).toNat = (0 : Nat) then w else a) (if (dgF key (↑y.val : Int)).toNat = (1 : Nat) then w else b) (if (dgF key (↑y.val : Int)).toNat = (2 : Nat) then w
    else c) (if (dgF key (↑y.val : Int)).toNat = (3 : Nat) then w else d) (3 : Int)).isSome = (grOf (if (dgF key (↑y.val : Int)).toNat = (0 : Nat) then w else a) (if (dgF key (↑y.val :
    Int)).toNat = (1 : Nat) then w else b) (if (dgF key (↑y.val : Int)).toNat = (2 : Nat) then w else c) (if (dgF key (↑y.val : Int)).toNat = (3 : Nat) then w else d) (3 : Int)).isSome
    ∧ (↑y.val : Int) = (↑y.val : Int) ∧ (↑y_1.val : Int) = (↑y_1.val : Int) ∧ a = a ∧ b = b ∧ c = c ∧ d = d ∧ ((if (dgF key (↑y.val : Int)).toNat = (0 : Nat) then w else a) = if (dgF
    key (↑y.val : Int)).toNat = (0 : Nat) then w else a) ∧ ((if (dgF key (↑y.val : Int)).toNat = (1 : Nat) then w else b) = if (dgF key (↑y.val : Int)).toNat = (1 : Nat) then w else b)
    ∧ ((if (dgF key (↑y.val : Int)).toNat = (2 : Nat) then w else c) = if (dgF key (↑y.val : Int)).toNat = (2 : Nat) then w else c) ∧ ((if (dgF key (↑y.val : Int)).toNat = (3 : Nat)
    then w else d) = if (dgF key (↑y.val : Int)).toNat = (3 : Nat) then w else d) ∧ ((if (dgF key (↑y.val : Int)).toNat = (0 : Nat) then w else a) = if (dgF key (↑y.val : Int)).toNat =
    (0 : Nat) then w else a) ∧ ((if (dgF key (↑y.val : Int)).toNat = (1 : Nat) then w else b) = if (dgF key (↑y.val : Int)).toNat = (1 : Nat) then w else b) ∧ ((if (dgF key (↑y.val :
    Int)).toNat = (2 : Nat) then w else c) = if (dgF key (↑y.val : Int)).toNat = (2 : Nat) then w else c) ∧ ((if (dgF key (↑y.val : Int)).toNat = (3 : Nat) then w else d) = if (dgF key
    (↑y.val : Int)).toNat = (3 : Nat) then w else d) ∧ ((if (dgF key (↑y.val : Int)).toNat = (0 : Nat) then w else a) = if (dgF key (↑y.val : Int)).toNat = (0 : Nat) then w else a) ∧
    ((if (dgF key (↑y.val : Int)).toNat = (1 : Nat) then w else b) = if (dgF key (↑y.val : Int)).toNat = (1 : Nat) then w else b) ∧ ((if (dgF key (↑y.val : Int)).toNat = (2 : Nat) then
    w else c) = if (dgF key (↑y.val : Int)).toNat = (2 : Nat) then w else c) ∧ ((if (dgF key (↑y.val : Int)).toNat = (3 : Nat) then w else d) = if (dgF key (↑y.val : Int)).toNat = (3 :
    Nat) then w else d) ∧ (↑y_2.val : Int) = (↑((grOf (if (dgF key (↑y.val : Int)).toNat = (0 : Nat) then w else a) (if (dgF key (↑y.val : Int)).toNat = (1 : Nat) then w else b) (if
    (dgF key (↑y.val : Int)).toNat = (2 : Nat) then w else c) (if (dgF key (↑y.val : Int)).toNat = (3 : Nat) then w else d) (3 : Int)).getD (0 : Nat)) : Int) + (1 : Int) ∧ True) ∧ ∀
    (y_2 : putY3 (grAt a b c d key w y.val)) (ρ : Nat → Value), ((grOf (if (dgF key (↑y.val : Int)).toNat = (0 : Nat) then w else a) (if (dgF key (↑y.val : Int)).toNat = (1 : Nat) then
    w else b) (if (dgF key (↑y.val : Int)).toNat = (2 : Nat) then w else c) (if (dgF key (↑y.val : Int)).toNat = (3 : Nat) then w else d) (3 : Int)).isSome = true → (decide ((↑y_2.val :
    Int) < (4 : Int)) = true → ((0 : Int) ≤ (↑y_2.val : Int) ∧ (↑y_2.val : Int) < (4 : Int)) ∧ (↑y_2.val : Int).toNat < (4 : Nat) ∧ (([if (dgF key (↑y.val : Int)).toNat = (0 : Nat) then
    w else a, if (dgF key (↑y.val : Int)).toNat = (1 : Nat) then w else b, if (dgF key (↑y.val : Int)).toNat = (2 : Nat) then w else c, if (dgF key (↑y.val : Int)).toNat = (3 : Nat)
    then w else d].getD (↑y_2.val : Int).toNat (0 : Int) != (0 : Int)) = true → false = true) ∧ (([if (dgF key (↑y.val : Int)).toNat = (0 : Nat) then w else a, if (dgF key (↑y.val :
    Int)).toNat = (1 : Nat) then w else b, if (dgF key (↑y.val : Int)).toNat = (2 : Nat) then w else c, if (dgF key (↑y.val : Int)).toNat = (3 : Nat) then w else d].getD (↑y_2.val :
    Int).toNat (0 : Int) != (0 : Int)) = false → ((-9223372036854775808 : Int) ≤ (↑y_2.val : Int) + (1 : Int) ∧ (↑y_2.val : Int) + (1 : Int) ≤ (9223372036854775807 : Int)) ∧ ∃ (y' :
    putY3 (grAt a b c d key w y.val)), (4 : Nat) - y'.val < (4 : Nat) - y_2.val ∧ key = key ∧ w = w ∧ (↑y.val : Int) = (↑y.val : Int) ∧ dgF key (↑y.val : Int) = dgF key (↑y.val : Int) ∧
    ρ_1 ((0 : Nat) + (2 : Nat) * (1 : Nat) + (2 : Nat) * ((2 : Nat) * (1 : Nat)) + (2 : Nat) * ((2 : Nat) * (1 : Nat))) = ρ_1 ((0 : Nat) + (2 : Nat) * (1 : Nat) + (2 : Nat) * ((2 : Nat)
    * (1 : Nat)) + (2 : Nat) * ((2 : Nat) * (1 : Nat))) ∧ (↑((grOf (if (dgF key (↑y.val : Int)).toNat = (0 : Nat) then w else a) (if (dgF key (↑y.val : Int)).toNat = (1 : Nat) then w
    else b) (if (dgF key (↑y.val : Int)).toNat = (2 : Nat) then w else c) (if (dgF key (↑y.val : Int)).toNat = (3 : Nat) then w else d) (3 : Int)).getD (0 : Nat)) : Int) = (↑((grOf (if
    (dgF key (↑y.val : Int)).toNat = (0 : Nat) then w else a) (if (dgF key (↑y.val : Int)).toNat = (1 : Nat) then w else b) (if (dgF key (↑y.val : Int)).toNat = (2 : Nat) then w else c)
    (if (dgF key (↑y.val : Int)).toNat = (3 : Nat) then w else d) (3 : Int)).getD (0 : Nat)) : Int) ∧ (grOf (if (dgF key (↑y.val : Int)).toNat = (0 : Nat) then w else a) (if (dgF key
    (↑y.val : Int)).toNat = (1 : Nat) then w else b) (if (dgF key (↑y.val : Int)).toNat = (2 : Nat) then w else c) (if (dgF key (↑y.val : Int)).toNat = (3 : Nat) then w else d) (3 :
    Int)).isSome = (grOf (if (dgF key (↑y.val : Int)).toNat = (0 : Nat) then w else a) (if (dgF key (↑y.val : Int)).toNat = (1 : Nat) then w else b) (if (dgF key (↑y.val : Int)).toNat =
    (2 : Nat) then w else c) (if (dgF key (↑y.val : Int)).toNat = (3 : Nat) then w else d) (3 : Int)).isSome ∧ (↑y.val : Int) = (↑y.val : Int) ∧ (↑y_1.val : Int) = (↑y_1.val : Int) ∧ a
    = a ∧ b = b ∧ c = c ∧ d = d ∧ ((if (dgF key (↑y.val : Int)).toNat = (0 : Nat) then w else a) = if (dgF key (↑y.val : Int)).toNat = (0 : Nat) then w else a) ∧ ((if (dgF key (↑y.val :
    Int)).toNat = (1 : Nat) then w else b) = if (dgF key (↑y.val : Int)).toNat = (1 : Nat) then w else b) ∧ ((if (dgF key (↑y.val : Int)).toNat = (2 : Nat) then w else c) = if (dgF key
    (↑y.val : Int)).toNat = (2 : Nat) then w else c) ∧ ((if (dgF key (↑y.val : Int)).toNat = (3 : Nat) then w else d) = if (dgF key (↑y.val : Int)).toNat = (3 : Nat) then w else d) ∧
    ((if (dgF key (↑y.val : Int)).toNat = (0 : Nat) then w else a) = if (dgF key (↑y.val : Int)).toNat = (0 : Nat) then w else a) ∧ ((if (dgF key (↑y.val : Int)).toNat = (1 : Nat) then
    w else b) = if (dgF key (↑y.val : Int)).toNat = (1 : Nat) then w else b) ∧ ((if (dgF key (↑y.val : Int)).toNat = (2 : Nat) then w else c) = if (dgF key (↑y.val : Int)).toNat = (2 :
    Nat) then w else c) ∧ ((if (dgF key (↑y.val : Int)).toNat = (3 : Nat) then w else d) = if (dgF key (↑y.val : Int)).toNat = (3 : Nat) then w else d) ∧ ((if (dgF key (↑y.val :
    Int)).toNat = (0 : Nat) then w else a) = if (dgF key (↑y.val : Int)).toNat = (0 : Nat) then w else a) ∧ ((if (dgF key (↑y.val : Int)).toNat = (1 : Nat) then w else b) = if (dgF key
    (↑y.val : Int)).toNat = (1 : Nat) then w else b) ∧ ((if (dgF key (↑y.val : Int)).toNat = (2 : Nat) then w else c) = if (dgF key (↑y.val : Int)).toNat = (2 : Nat) then w else c) ∧
    ((if (dgF key (↑y.val : Int)).toNat = (3 : Nat) then w else d) = if (dgF key (↑y.val : Int)).toNat = (3 : Nat) then w else d) ∧ (↑y'.val : Int) = (↑y_2.val : Int) + (1 : Int) ∧
    True)) ∧ (decide ((↑y_2.val : Int) < (4 : Int)) = false → ((-9223372036854775808 : Int) ≤ (↑y.val : Int) + (1 : Int) ∧ (↑y.val : Int) + (1 : Int) ≤ (9223372036854775807 : Int)) ∧ ∃
    (y' : upTo (4 : Nat)), (4 : Nat) - y'.val < (4 : Nat) - y.val ∧ key = key ∧ w = w ∧ a = a ∧ b = b ∧ c = c ∧ d = d ∧ (↑y'.val : Int) = (↑y.val : Int) + (1 : Int) ∧ True)) ∧ ((grOf
    (if (dgF key (↑y.val : Int)).toNat = (0 : Nat) then w else a) (if (dgF key (↑y.val : Int)).toNat = (1 : Nat) then w else b) (if (dgF key (↑y.val : Int)).toNat = (2 : Nat) then w
    else c) (if (dgF key (↑y.val : Int)).toNat = (3 : Nat) then w else d) (3 : Int)).isSome = false → ((-9223372036854775808 : Int) ≤ (↑y.val : Int) + (1 : Int) ∧ (↑y.val : Int) + (1 :
    Int) ≤ (9223372036854775807 : Int)) ∧ ∃ (y' : upTo (4 : Nat)), (4 : Nat) - y'.val < (4 : Nat) - y.val ∧ key = key ∧ w = w ∧ a = a ∧ b = b ∧ c = c ∧ d = d ∧ (↑y'.val : Int) = (↑y.val
    : Int) + (1 : Int) ∧ True))) ∧ ((grOf (if (dgF key (↑y.val : Int)).toNat = (0 : Nat) then w else a) (if (dgF key (↑y.val : Int)).toNat = (1 : Nat) then w else b) (if (dgF key
    (↑y.val : Int)).toNat = (2 : Nat) then w else c) (if (dgF key (↑y.val : Int)).toNat = (3 : Nat) then w else d) (3 : Int)).isSome = false → (∃ (y_2 : putY3 (grAt a b c d key w
    y.val)), key = key ∧ w = w ∧ (↑y.val : Int) = (↑y.val : Int) ∧ dgF key (↑y.val : Int) = dgF key (↑y.val : Int) ∧ ρ_1 ((0 : Nat) + (2 : Nat) * (1 : Nat) + (2 : Nat) * ((2 : Nat) * (1
    : Nat)) + (2 : Nat) * ((2 : Nat) * (1 : Nat))) = ρ_1 ((0 : Nat) + (2 : Nat) * (1 : Nat) + (2 : Nat) * ((2 : Nat) * (1 : Nat)) + (2 : Nat) * ((2 : Nat) * (1 : Nat))) ∧ (↑((grOf (if
    (dgF key (↑y.val : Int)).toNat = (0 : Nat) then w else a) (if (dgF key (↑y.val : Int)).toNat = (1 : Nat) then w else b) (if (dgF key (↑y.val : Int)).toNat = (2 : Nat) then w else c)
    (if (dgF key (↑y.val : Int)).toNat = (3 : Nat) then w else d) (3 : Int)).getD (0 : Nat)) : Int) = (↑((grOf (if (dgF key (↑y.val : Int)).toNat = (0 : Nat) then w else a) (if (dgF key
    (↑y.val : Int)).toNat = (1 : Nat) then w else b) (if (dgF key (↑y.val : Int)).toNat = (2 : Nat) then w else c) (if (dgF key (↑y.val : Int)).toNat = (3 : Nat) then w else d) (3 :
    Int)).getD (0 : Nat)) : Int) ∧ (grOf (if (dgF key (↑y.val : Int)).toNat = (0 : Nat) then w else a) (if (dgF key (↑y.val : Int)).toNat = (1 : Nat) then w else b) (if (dgF key (↑y.val
    : Int)).toNat = (2 : Nat) then w else c) (if (dgF key (↑y.val : Int)).toNat = (3 : Nat) then w else d) (3 : Int)).isSome = (grOf (if (dgF key (↑y.val : Int)).toNat = (0 : Nat) then
    w else a) (if (dgF key (↑y.val : Int)).toNat = (1 : Nat) then w else b) (if (dgF key (↑y.val : Int)).toNat = (2 : Nat) then w else c) (if (dgF key (↑y.val : Int)).toNat = (3 : Nat)
    then w else d) (3 : Int)).isSome ∧ (↑y.val : Int) = (↑y.val : Int) ∧ (↑y_1.val : Int) = (↑y_1.val : Int) ∧ a = a ∧ b = b ∧ c = c ∧ d = d ∧ ((if (dgF key (↑y.val : Int)).toNat = (0 :
    Nat) then w else a) = if (dgF key (↑y.val : Int)).toNat = (0 : Nat) then w else a) ∧ ((if (dgF key (↑y.val : Int)).toNat = (1 : Nat) then w else b) = if (dgF key (↑y.val :
    Int)).toNat = (1 : Nat) then w else b) ∧ ((if (dgF key (↑y.val : Int)).toNat = (2 : Nat) then w else c) = if (dgF key (↑y.val : Int)).toNat = (2 : Nat) then w else c) ∧ ((if (dgF
    key (↑y.val : Int)).toNat = (3 : Nat) then w else d) = if (dgF key (↑y.val : Int)).toNat = (3 : Nat) then w else d) ∧ ((if (dgF key (↑y.val : Int)).toNat = (0 : Nat) then w else a)
    = if (dgF key (↑y.val : Int)).toNat = (0 : Nat) then w else a) ∧ ((if (dgF key (↑y.val : Int)).toNat = (1 : Nat) then w else b) = if (dgF key (↑y.val : Int)).toNat = (1 : Nat) then
    w else b) ∧ ((if (dgF key (↑y.val : Int)).toNat = (2 : Nat) then w else c) = if (dgF key (↑y.val : Int)).toNat = (2 : Nat) then w else c) ∧ ((if (dgF key (↑y.val : Int)).toNat = (3
    : Nat) then w else d) = if (dgF key (↑y.val : Int)).toNat = (3 : Nat) then w else d) ∧ ((if (dgF key (↑y.val : Int)).toNat = (0 : Nat) then w else a) = if (dgF key (↑y.val :
    Int)).toNat = (0 : Nat) then w else a) ∧ ((if (dgF key (↑y.val : Int)).toNat = (1 : Nat) then w else b) = if (dgF key (↑y.val : Int)).toNat = (1 : Nat) then w else b) ∧ ((if (dgF
    key (↑y.val : Int)).toNat = (2 : Nat) then w else c) = if (dgF key (↑y.val : Int)).toNat = (2 : Nat) then w else c) ∧ ((if (dgF key (↑y.val : Int)).toNat = (3 : Nat) then w else d)
    = if (dgF key (↑y.val : Int)).toNat = (3 : Nat) then w else d) ∧ (↑y_2.val : Int) = (↑((grOf (if (dgF key (↑y.val : Int)).toNat = (0 : Nat) then w else a) (if (dgF key (↑y.val :
    Int)).toNat = (1 : Nat) then w else b) (if (dgF key (↑y.val : Int)).toNat = (2 : Nat) then w else c) (if (dgF key (↑y.val : Int)).toNat = (3 : Nat) then w else d) (3 : Int)).getD (0
    : Nat)) : Int) + (1 : Int) ∧ True) ∧ ∀ (y_2 : putY3 (grAt a b c d key w y.val)) (ρ : Nat → Value), ((grOf (if (dgF key (↑y.val : Int)).toNat = (0 : Nat) then w else a) (if (dgF key
    (↑y.val : Int)).toNat = (1 : Nat) then w else b) (if (dgF key (↑y.val : Int)).toNat = (2 : Nat) then w else c) (if (dgF key (↑y.val : Int)).toNat = (3 : Nat) then w else d) (3 :
    Int)).isSome = true → (decide ((↑y_2.val : Int) < (4 : Int)) = true → ((0 : Int) ≤ (↑y_2.val : Int) ∧ (↑y_2.val : Int) < (4 : Int)) ∧ (↑y_2.val : Int).toNat < (4 : Nat) ∧ (([if (dgF
    key (↑y.val : Int)).toNat = (0 : Nat) then w else a, if (dgF key (↑y.val : Int)).toNat = (1 : Nat) then w else b, if (dgF key (↑y.val : Int)).toNat = (2 : Nat) then w else c, if
    (dgF key (↑y.val : Int)).toNat = (3 : Nat) then w else d].getD (↑y_2.val : Int).toNat (0 : Int) != (0 : Int)) = true → false = true) ∧ (([if (dgF key (↑y.val : Int)).toNat = (0 :
    Nat) then w else a, if (dgF key (↑y.val : Int)).toNat = (1 : Nat) then w else b, if (dgF key (↑y.val : Int)).toNat = (2 : Nat) then w else c, if (dgF key (↑y.val : Int)).toNat = (3
    : Nat) then w else d].getD (↑y_2.val : Int).toNat (0 : Int) != (0 : Int)) = false → ((-9223372036854775808 : Int) ≤ (↑y_2.val : Int) + (1 : Int) ∧ (↑y_2.val : Int) + (1 : Int) ≤
    (9223372036854775807 : Int)) ∧ ∃ (y' : putY3 (grAt a b c d key w y.val)), (4 : Nat) - y'.val < (4 : Nat) - y_2.val ∧ key = key ∧ w = w ∧ (↑y.val : Int) = (↑y.val : Int) ∧ dgF key
    (↑y.val : Int) = dgF key (↑y.val : Int) ∧ ρ_1 ((0 : Nat) + (2 : Nat) * (1 : Nat) + (2 : Nat) * ((2 : Nat) * (1 : Nat)) + (2 : Nat) * ((2 : Nat) * (1 : Nat))) = ρ_1 ((0 : Nat) + (2 :
    Nat) * (1 : Nat) + (2 : Nat) * ((2 : Nat) * (1 : Nat)) + (2 : Nat) * ((2 : Nat) * (1 : Nat))) ∧ (↑((grOf (if (dgF key (↑y.val : Int)).toNat = (0 : Nat) then w else a) (if (dgF key
    (↑y.val : Int)).toNat = (1 : Nat) then w else b) (if (dgF key (↑y.val : Int)).toNat = (2 : Nat) then w else c) (if (dgF key (↑y.val : Int)).toNat = (3 : Nat) then w else d) (3 :
    Int)).getD (0 : Nat)) : Int) = (↑((grOf (if (dgF key (↑y.val : Int)).toNat = (0 : Nat) then w else a) (if (dgF key (↑y.val : Int)).toNat = (1 : Nat) then w else b) (if (dgF key
    (↑y.val : Int)).toNat = (2 : Nat) then w else c) (if (dgF key (↑y.val : Int)).toNat = (3 : Nat) then w else d) (3 : Int)).getD (0 : Nat)) : Int) ∧ (grOf (if (dgF key (↑y.val :
    Int)).toNat = (0 : Nat) then w else a) (if (dgF key (↑y.val : Int)).toNat = (1 : Nat) then w else b) (if (dgF key (↑y.val : Int)).toNat = (2 : Nat) then w else c) (if (dgF key
    (↑y.val : Int)).toNat = (3 : Nat) then w else d) (3 : Int)).isSome = (grOf (if (dgF key (↑y.val : Int)).toNat = (0 : Nat) then w else a) (if (dgF key (↑y.val : Int)).toNat = (1 :
    Nat) then w else b) (if (dgF key (↑y.val : Int)).toNat = (2 : Nat) then w else c) (if (dgF key (↑y.val : Int)).toNat = (3 : Nat) then w else d) (3 : Int)).isSome ∧ (↑y.val : Int) =
    (↑y.val : Int) ∧ (↑y_1.val : Int) = (↑y_1.val : Int) ∧ a = a ∧ b = b ∧ c = c ∧ d = d ∧ ((if (dgF key (↑y.val : Int)).toNat = (0 : Nat) then w else a) = if (dgF key (↑y.val :
    Int)).toNat = (0 : Nat) then w else a) ∧ ((if (dgF key (↑y.val : Int)).toNat = (1 : Nat) then w else b) = if (dgF key (↑y.val : Int)).toNat = (1 : Nat) then w else b) ∧ ((if (dgF
    key (↑y.val : Int)).toNat = (2 : Nat) then w else c) = if (dgF key (↑y.val : Int)).toNat = (2 : Nat) then w else c) ∧ ((if (dgF key (↑y.val : Int)).toNat = (3 : Nat) then w else d)
    = if (dgF key (↑y.val : Int)).toNat = (3 : Nat) then w else d) ∧ ((if (dgF key (↑y.val : Int)).toNat = (0 : Nat) then w else a) = if (dgF key (↑y.val : Int)).toNat = (0 : Nat) then
    w else a) ∧ ((if (dgF key (↑y.val : Int)).toNat = (1 : Nat) then w else b) = if (dgF key (↑y.val : Int)).toNat = (1 : Nat) then w else b) ∧ ((if (dgF key (↑y.val : Int)).toNat = (2
    : Nat) then w else c) = if (dgF key (↑y.val : Int)).toNat = (2 : Nat) then w else c) ∧ ((if (dgF key (↑y.val : Int)).toNat = (3 : Nat) then w else d) = if (dgF key (↑y.val :
    Int)).toNat = (3 : Nat) then w else d) ∧ ((if (dgF key (↑y.val : Int)).toNat = (0 : Nat) then w else a) = if (dgF key (↑y.val : Int)).toNat = (0 : Nat) then w else a) ∧ ((if (dgF
    key (↑y.val : Int)).toNat = (1 : Nat) then w else b) = if (dgF key (↑y.val : Int)).toNat = (1 : Nat) then w else b) ∧ ((if (dgF key (↑y.val : Int)).toNat = (2 : Nat) then w else c)
    = if (dgF key (↑y.val : Int)).toNat = (2 : Nat) then w else c) ∧ ((if (dgF key (↑y.val : Int)).toNat = (3 : Nat) then w else d) = if (dgF key (↑y.val : Int)).toNat = (3 : Nat) then
    w else d) ∧ (↑y'.val : Int) = (↑y_2.val : Int) + (1 : Int) ∧ True)) ∧ (decide ((↑y_2.val : Int) < (4 : Int)) = false → ((-9223372036854775808 : Int) ≤ (↑y.val : Int) + (1 : Int) ∧
    (↑y.val : Int) + (1 : Int) ≤ (9223372036854775807 : Int)) ∧ ∃ (y' : upTo (4 : Nat)), (4 : Nat) - y'.val < (4 : Nat) - y.val ∧ key = key ∧ w = w ∧ a = a ∧ b = b ∧ c = c ∧ d = d ∧
    (↑y'.val : Int) = (↑y.val : Int) + (1 : Int) ∧ True)) ∧ ((grOf (if (dgF key (↑y.val : Int)).toNat = (0 : Nat) then w else a) (if (dgF key (↑y.val : Int)).toNat = (1 : Nat) then w
    else b) (if (dgF key (↑y.val : Int)).toNat = (2 : Nat) then w else c) (if (dgF key (↑y.val : Int)).toNat = (3 : Nat) then w else d) (3 : Int)).isSome = false →
    ((-9223372036854775808 : Int) ≤ (↑y.val : Int) + (1 : Int) ∧ (↑y.val : Int) + (1 : Int) ≤ (9223372036854775807 : Int)) ∧ ∃ (y' : upTo (4 : Nat)), (4 : Nat) - y'.val < (4 : Nat) -
    y.val ∧ key = key ∧ w = w ∧ a = a ∧ b = b ∧ c = c ∧ d = d ∧ (↑y'.val : Int) = (↑y.val : Int) + (1 : Int) ∧ True)))) ∧ True)) ∧ True) ∧ (decide ((↑y.val : Int) < (4 : Int)) = false →
    (∃ (y : upTo (4 : Nat)), key = key ∧ ρ ((0 : Nat) + (2 : Nat) * (1 : Nat) + (2 : Nat) * ((2 : Nat) * (1 : Nat))) = ρ ((0 : Nat) + (2 : Nat) * (1 : Nat) + (2 : Nat) * ((2 : Nat) * (1
    : Nat))) ∧ a = a ∧ b = b ∧ c = c ∧ d = d ∧ (↑y.val : Int) = (0 : Int) ∧ kF key y.val = (0 : Int) ∧ True) ∧ ∀ (y : upTo (4 : Nat)) (ρ_1 : Nat → Value), (decide ((↑y.val : Int) < (4 :
    Int)) = true → ((-9223372036854775808 : Int) ≤ (4 : Int) * kF key y.val ∧ (4 : Int) * kF key y.val ≤ (9223372036854775807 : Int)) ∧ True ∧ (∀ (z : Un), True → ((-9223372036854775808
    : Int) ≤ (4 : Int) * kF key y.val + dgF key (↑y.val : Int) ∧ (4 : Int) * kF key y.val + dgF key (↑y.val : Int) ≤ (9223372036854775807 : Int)) ∧ ((-9223372036854775808 : Int) ≤
    (↑y.val : Int) + (1 : Int) ∧ (↑y.val : Int) + (1 : Int) ≤ (9223372036854775807 : Int)) ∧ ∃ (y' : upTo (4 : Nat)), (4 : Nat) - y'.val < (4 : Nat) - y.val ∧ key = key ∧ ρ ((0 : Nat) +
    (2 : Nat) * (1 : Nat) + (2 : Nat) * ((2 : Nat) * (1 : Nat))) = ρ ((0 : Nat) + (2 : Nat) * (1 : Nat) + (2 : Nat) * ((2 : Nat) * (1 : Nat))) ∧ a = a ∧ b = b ∧ c = c ∧ d = d ∧ (↑y'.val
    : Int) = (↑y.val : Int) + (1 : Int) ∧ kF key y'.val = (4 : Int) * kF key y.val + dgF key (↑y.val : Int) ∧ True) ∧ True) ∧ (decide ((↑y.val : Int) < (4 : Int)) = false → (kF key
    y.val == key) = true))) := by
  kernel_rfl
theorem quadPuts_run (a b c d key w : Int) (hk : 0 ≤ key ∧ key ≤ 255) (hc : True) : Run (callN Try.prog (tblQ7 : List (Smry Try.prog XE)) (fun _ _ => false) 100 20 6 [.agg [.int false .u64 a, .int false .u64 b, .int false .u64 c, .int false .u64 d], .c (.int false .u8 key (.w 0 255 hk)), .c (.int false .u64 w)] ⟨[], 0⟩ (putL1 a b c d key w) (fun v _ _ => retTrue v)) := by
  constructor
  rw [quadPuts_vc]
  simp only [eq_self, true_and, and_true]
  refine ⟨⟨⟨0, by omega⟩, rfl⟩, fun y _ => ⟨fun h z _ => ?_, fun h => ?_⟩⟩
  · obtain ⟨lv, hlv⟩ := y
    dsimp only at *
    have hd := dgF_bd key lv
    have hlt : lv < 4 := by have := of_decide_eq_true h; omega
    unfold grAt
    generalize hD : dgF key (lv : Int) = D at *
    obtain ⟨dd, rfl⟩ : ∃ dd : Nat, D = dd := ⟨D.toNat, by omega⟩
    simp only [Int.toNat_natCast]
    have hdd : dd < 4 := by omega
    have hg4 := gr_lt (if dd = 0 then w else a) (if dd = 1 then w else b) (if dd = 2 then w else c) (if dd = 3 then w else d)
    repeat' first
      | with_reducible apply And.intro
      | with_reducible exact trivial
      | (intro y1; have hy1 : y1.1 ≤ 4 := y1.2)
      | (intro y3; have hy3 := y3.2.1; have hy4 := y3.2.2)
      | (intro hh; first | with_reducible have hq := of_decide_eq_true hh | with_reducible have hq := of_decide_eq_false hh | with_reducible have hq := eq_of_beq hh | with_reducible have hq := beq_eq_false_iff_ne.1 hh | with_reducible have hq := bne_iff_ne.1 hh | with_reducible have hq := bne_eq_false_iff_eq.1 hh)
      | intro _
    any_goals first
      | exact ⟨⟨y3.1 + 1, by omega, by omega⟩, by show 4 - (y3.1 + 1) < 4 - y3.1; omega, by show ((y3.1 + 1 : Nat) : Int) = _; omega⟩
      | exact ⟨⟨lv + 1, by omega⟩, by show 4 - (lv + 1) < 4 - lv; omega, by show ((lv + 1 : Nat) : Int) = _; omega⟩
      | exact ⟨⟨y1.1 + 1, by omega⟩, by show 4 - (y1.1 + 1) < 4 - y1.1; omega, by show ((y1.1 + 1 : Nat) : Int) = _; omega⟩
      | exact ⟨⟨0, by omega⟩, rfl⟩
      | exact ⟨⟨(grOf (if dd = 0 then w else a) (if dd = 1 then w else b) (if dd = 2 then w else c) (if dd = 3 then w else d) 3).getD 0 + 1, by omega, Nat.lt_succ_self _⟩, by show ((_ + 1 : Nat) : Int) = _; omega⟩
      | exact absurd (put_at a b c d w (by omega) (by omega)) hq
      | exact absurd (put_off a b c d w (by omega) (by omega)) hq
      | exact absurd hq (gr_ne (by assumption))
      | exact absurd (gr_zero (by assumption) hy4 (by omega)) hq
      | (exfalso; rw [gr_tell] at hq; revert hq; generalize (false == _ : Bool) = u; cases u <;> decide)
      | omega
      | skip
  · refine ⟨⟨⟨0, by omega⟩, rfl, rfl⟩, fun y1 _ => ⟨fun h1 => ?_, fun h1 => ?_⟩⟩
    · have hy := of_decide_eq_true h1
      have hb := kF_bd key hk y1.1 (by omega)
      have hd := dgF_bd key y1.1
      refine ⟨⟨by omega, by omega⟩, fun _ _ => ⟨⟨by omega, by omega⟩, ⟨by omega, by omega⟩, ⟨⟨y1.1 + 1, by omega⟩, ?_, ?_, ?_⟩⟩⟩
      · show 4 - (y1.1 + 1) < 4 - y1.1; omega
      · show ((y1.1 + 1 : Nat) : Int) = _; omega
      · rfl
    · have hy := of_decide_eq_false h1
      have hu : y1.1 ≤ 4 := y1.2
      rw [show y1.1 = 4 by omega, kF_key key hk]
      exact beq_self_eq_true _
end Go.Proofs.Ytcmoffcaiepgbaa
