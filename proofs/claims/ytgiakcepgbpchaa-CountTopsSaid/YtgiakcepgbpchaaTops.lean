/- CountTops: what the topmost counters and the slots' own ones tell. No program in sight. -/
import Derived.Test.YtgiakcepgbpchaaWords
import Derived.Test.YtgiakcepgbpchaaSumSeg
namespace Go.Proofs.Ytgiakcepgbpchaa
open Go Go.RowKit

/-- The slots that are entered. -/
def slF (W : World) (a : Option Addr) (j : Nat) : Nat := (seenInt .u8 W (addOpt a j) % 15).toNat
theorem slF_le (W : World) (a : Option Addr) (j : Nat) : slF W a j ≤ 14 := by
  unfold slF
  have := Int.emod_lt_of_pos (seenInt .u8 W (addOpt a j)) (show (0 : Int) < 15 by omega)
  omega
def countF (p : Nat → Bool) : Nat → Nat
  | 0 => 0
  | k + 1 => countF p k + (if p k = true then 1 else 0)
theorem countF_le (p : Nat → Bool) (k : Nat) : countF p k ≤ k := by
  induction k with
  | zero => exact Nat.le_refl _
  | succ k ih => simp only [countF]; split <;> omega
def topsF (sl : Nat → Nat) (k g : Nat) : Nat := countF (fun j => decide (segG (sl j) = g)) k
def ownF (sl : Nat → Nat) (k s : Nat) : Nat := countF (fun j => decide (sl j = s)) k
/-- How often a word has been added to. -/
def hitF (sl : Nat → Nat) (h i : Nat) : Nat → Nat
  | 0 => 0
  | k + 1 => hitF sl h i k + onPath (sl k) (segG (sl k) + 1) h i ((segG (sl k) + 1) * 65537)
theorem hitF_le (sl : Nat → Nat) (h i k : Nat) : hitF sl h i k ≤ k := by
  induction k with
  | zero => exact Nat.le_refl _
  | succ k ih =>
    simp only [hitF]
    have := onPath_le (s := sl k) (n := segG (sl k) + 1) (g' := h) (i := i) (sg := (segG (sl k) + 1) * 65537) (Nat.le_refl _)
    omega
theorem segG_14 {s : Nat} (h : s ≤ 14) : segG s ≤ 3 := by
  have h1 := (seg_facts (s := s) (by omega)).2.1
  rcases Nat.lt_or_ge (segG s) 4 with h2 | h2
  · omega
  · have : 2 ^ 4 ≤ 2 ^ segG s := Nat.pow_le_pow_right (by omega) h2
    omega
theorem onPath_one {s n h i sg : Nat} (hn : n ≤ segG s + 1) : onPath s n h i sg = if (h = sg ∧ ∃ j, j < n ∧ i = 5 * 2 ^ segG s + (s + 1) / 2 ^ j) then 1 else 0 := by
  induction n with
  | zero => simp [onPath]
  | succ n ih =>
    have hle := onPath_le (s := s) (n := n + 1) (g' := h) (i := i) (sg := sg) hn
    rw [onPath_succ] at hle ⊢
    rw [ih (by omega)] at hle ⊢
    by_cases h1 : h = sg ∧ ∃ j, j < n ∧ i = 5 * 2 ^ segG s + (s + 1) / 2 ^ j
    · rw [if_pos h1] at hle ⊢
      have h2 : ¬ (h = sg ∧ i = 5 * 2 ^ segG s + (s + 1) / 2 ^ n) := fun e => by rw [if_pos e] at hle; omega
      rw [if_neg h2, if_pos ⟨h1.1, by obtain ⟨j, hj, e⟩ := h1.2; exact ⟨j, by omega, e⟩⟩]
    · rw [if_neg h1]
      by_cases h2 : h = sg ∧ i = 5 * 2 ^ segG s + (s + 1) / 2 ^ n
      · rw [if_pos h2, if_pos ⟨h2.1, n, by omega, h2.2⟩]
      · rw [if_neg h2, if_neg]
        rintro ⟨e, j, hj, ej⟩
        by_cases hjn : j = n
        · subst hjn; exact h2 ⟨e, ej⟩
        · exact h1 ⟨e, j, by omega, ej⟩
theorem top_node {s : Nat} (hs : s ≤ 254) : (s + 1) / 2 ^ segG s = 1 := by
  obtain ⟨_, h1, h2⟩ := seg_facts hs
  have hp : 0 < 2 ^ segG s := Nat.two_pow_pos _
  exact Nat.div_eq_of_lt_le (by omega) (by omega)
theorem hit_top {sl : Nat → Nat} (hsl : ∀ j, sl j ≤ 14) {g : Nat} (k : Nat) : hitF sl ((g + 1) * 65537) (5 * 2 ^ g + 1) k = topsF sl k g := by
  induction k with
  | zero => rfl
  | succ k ih =>
    simp only [hitF, topsF, countF] at ih ⊢
    rw [ih]
    congr 1
    rw [onPath_one (Nat.le_refl _)]
    have hs := hsl k
    by_cases e : segG (sl k) = g
    · subst e
      rw [if_pos ⟨rfl, segG (sl k), by omega, by rw [top_node (by omega)]⟩]
      simp
    · rw [if_neg (by rintro ⟨h, _⟩; omega)]
      simp [e]
theorem hit_own {sl : Nat → Nat} (hsl : ∀ j, sl j ≤ 14) {s : Nat} (hs : s ≤ 14) (k : Nat) : hitF sl ((segG s + 1) * 65537) (5 * 2 ^ segG s + (s + 1)) k = ownF sl k s := by
  induction k with
  | zero => rfl
  | succ k ih =>
    simp only [hitF, ownF, countF] at ih ⊢
    rw [ih]
    congr 1
    rw [onPath_one (Nat.le_refl _)]
    have hs' := hsl k
    by_cases e : sl k = s
    · subst e
      rw [if_pos ⟨rfl, 0, by omega, by simp⟩]
      simp
    · rw [if_neg]
      · simp [e]
      · rintro ⟨h, j, hj, ej⟩
        have hg : segG (sl k) = segG s := by omega
        rw [hg] at ej hj
        have h1 := (seg_facts (s := s) (by omega)).2.1
        have h2 := (seg_facts (s := sl k) (by omega)).2.2
        rw [hg] at h2
        cases j with
        | zero => simp at ej; omega
        | succ j =>
          have h3 : (sl k + 1) / 2 ^ (j + 1) ≤ (sl k + 1) / 2 := by
            rw [Nat.pow_succ, Nat.mul_comm, ← Nat.div_div_eq_div_mul]
            exact Nat.div_le_self _ _
          omega
/-- What holds behind k of them. -/
def TopInv (A0 : Ar) (sl : Nat → Nat) (k : Nat) (A : Ar) : Prop := A.faults = 0 ∧ ∀ h i, A.word h i = (A0.word h i).map (· + hitF sl h i k)
theorem seg_word {n : Nat} {A : Ar} (h : SegOk n A) {g i : Nat} (hg : g < n) (hi : i < 7 * 2 ^ g) : A.word ((g + 1) * 65537) i = some 0 := by
  obtain ⟨v, hv⟩ := h.blk g hg
  unfold Ar.word
  rw [if_neg (by omega), hv]
  simp [hi]
theorem TopInv.zero {A0 : Ar} (h : SegOk 4 A0) (sl : Nat → Nat) : TopInv A0 sl 0 A0 := ⟨h.faults, fun k i => by simp [hitF]⟩
theorem TopInv.steps {A0 A : Ar} {sl : Nat → Nat} {k : Nat} (h0 : SegOk 4 A0) (hsl : ∀ j, sl j ≤ 14) (h : TopInv A0 sl k A) (hk : k ≤ 100) (n : Nat) :
    CntOk (runC n ⟨(segG (sl k) + 1) * 65537, sl k, 0, segG (sl k) + 1, 1⟩) (runA n ⟨(segG (sl k) + 1) * 65537, sl k, 0, segG (sl k) + 1, 1⟩ A) ∧ (8 ≤ n → TopInv A0 sl (k + 1) (runA n ⟨(segG (sl k) + 1) * 65537, sl k, 0, segG (sl k) + 1, 1⟩ A)) := by
  have hs := hsl k
  have hg := segG_14 hs
  have hw : ∀ j, j ≤ segG (sl k) → ∃ x, A.word ((segG (sl k) + 1) * 65537) (5 * 2 ^ segG (sl k) + (sl k + 1) / 2 ^ j) = some x ∧ x + 1 < TW := fun j hj => by
    have h1 := path_node (s := sl k) (by omega) hj
    rw [h.2, seg_word h0 (by omega) (by omega)]
    refine ⟨_, rfl, ?_⟩
    have := hitF_le sl ((segG (sl k) + 1) * 65537) (5 * 2 ^ segG (sl k) + (sl k + 1) / 2 ^ j) k
    unfold TW
    simp only [Nat.zero_add]
    omega
  obtain ⟨r1, r2, r3, r4⟩ := run_steps (A := A) (sg := (segG (sl k) + 1) * 65537) (s := sl k) (by omega) (by omega) (by omega) hw n
  refine ⟨r4, fun hn => ⟨by rw [r3]; exact h.1, fun x i => ?_⟩⟩
  rw [r2, h.2, Option.map_map]
  congr 1
  funext y
  simp only [Function.comp, hitF]
  have e : min n (segG (sl k) + 1) = segG (sl k) + 1 := by omega
  rw [e]
  omega
theorem TopInv.rd {A0 A : Ar} {sl : Nat → Nat} {k : Nat} (h0 : SegOk 4 A0) (h : TopInv A0 sl k A) {g i : Nat} (hg : g < 4) (hi : i < 7 * 2 ^ g) : A.word ((g + 1) * 65537) i = some (hitF sl ((g + 1) * 65537) i k) := by
  rw [h.2, seg_word h0 hg hi]
  simp
end Go.Proofs.Ytgiakcepgbpchaa
