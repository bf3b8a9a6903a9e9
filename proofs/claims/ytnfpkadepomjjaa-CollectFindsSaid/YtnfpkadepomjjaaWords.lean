/- The arena's words, as they are turned. No program in sight. -/
import Derived.Test.YtnfpkadepomjjaaBaseS
set_option linter.all false
namespace Go.Proofs.Ytnfpkadepomjjaa
open Go Go.RowKit

theorem Ar.find_set (A : Ar) (h i x k : Nat) (h0 : h ≠ 0) : (A.set h i x).find k = (A.find k).map (setBlk h i x) := by
  unfold Ar.find Ar.set
  rw [if_neg h0]
  simp only [List.find?_map]
  congr 1
  congr 1
  funext b
  simp only [Function.comp, setBlk]
  split <;> rfl
theorem Ar.find_tick (A : Ar) (f : Tly → Tly) (k : Nat) : (A.tick f).find k = A.find k := rfl
theorem Ar.word_tick (A : Ar) (f : Tly → Tly) (k i : Nat) : (A.tick f).word k i = A.word k i := rfl
/-- What stands where, when a word is turned. -/
theorem Ar.word_set (A : Ar) {h i : Nat} (x : Nat) (hs : (A.word h i).isSome = true) (k j : Nat) : (A.set h i x).word k j = if k = h ∧ j = i then some x else A.word k j := by
  by_cases h0 : h = 0
  · subst h0
    unfold Ar.set
    rw [if_pos rfl]
    unfold Ar.word at *
    rw [if_pos rfl] at hs
    by_cases hk : k = 0
    · subst hk
      simp only [if_true, true_and]
      split
      · split
        · rfl
        · rfl
      · rename_i h9
        rw [if_neg]
        rintro rfl
        rw [if_neg h9] at hs
        cases hs
    · rw [if_neg hk, if_neg hk, if_neg (by simp [hk])]
      rfl
  · unfold Ar.word at *
    by_cases hk : k = 0
    · subst hk
      have h0' : ¬ (0 = h) := fun e => h0 e.symm
      simp only [if_true, h0', false_and, if_false]
      unfold Ar.set
      rw [if_neg h0]
    · rw [if_neg hk, if_neg hk, Ar.find_set A h i x k h0]
      rw [if_neg h0] at hs
      cases hf : A.find k with
      | none =>
        simp only [Option.map_none, Option.bind_none]
        rw [if_neg]
        rintro ⟨rfl, rfl⟩
        rw [hf] at hs
        cases hs
      | some b =>
        simp only [Option.map_some, Option.bind_some]
        have hb : b.h = k := by
          have := List.find?_some hf
          simpa using this
        unfold setBlk
        by_cases hkh : k = h
        · subst hkh
          rw [if_pos hb]
          simp only [true_and]
          by_cases hj : j = i
          · subst hj
            rw [if_pos rfl]
            rw [hf] at hs
            simp only [Option.bind_some] at hs
            have hlt : j < b.ws.length := by
              rcases Nat.lt_or_ge j b.ws.length with h' | h'
              · exact h'
              · rw [List.getElem?_eq_none h'] at hs; cases hs
            rw [List.getElem?_set_self hlt]
          · rw [if_neg hj, List.getElem?_set_ne (Ne.symm hj)]
        · rw [if_neg (by rw [hb]; exact hkh), if_neg (by simp [hkh])]
theorem Ar.word_read (A : Ar) (k i : Nat) : A.read.word k i = A.word k i := rfl
theorem Ar.rd_read (A : Ar) (k i : Int) : A.read.rd k i = A.rd k i := rfl
theorem Ar.has_read (A : Ar) (k i : Int) : A.read.Has k i = A.Has k i := rfl
theorem Ar.word_add (A : Ar) {h i : Int} (y : Int) (hs : A.Has h i) (k j : Nat) : (A.add h i y).word k j = if k = h.toNat ∧ j = i.toNat then some (addW (A.rd h i) y.toNat) else A.word k j := by
  unfold Ar.add
  rw [Ar.word_tick]
  exact Ar.word_set A _ hs.2.2.2 k j
theorem Ar.word_write (A : Ar) {h i : Int} (y : Int) (hs : A.Has h i) (k j : Nat) : (A.write h i y).word k j = if k = h.toNat ∧ j = i.toNat then some y.toNat else A.word k j := by
  unfold Ar.write
  rw [Ar.word_tick]
  exact Ar.word_set A _ hs.2.2.2 k j
theorem Ar.faults_set (A : Ar) (h i x : Nat) : (A.set h i x).faults = A.faults := by unfold Ar.set; split <;> rfl
theorem Ar.faults_add (A : Ar) (h i y : Int) : (A.add h i y).faults = A.faults := Ar.faults_set _ _ _ _
theorem Ar.faults_write (A : Ar) (h i y : Int) : (A.write h i y).faults = A.faults := Ar.faults_set _ _ _ _
theorem rd_word {A : Ar} {h i x : Nat} (e : A.word h i = some x) : A.rd (h : Int) (i : Int) = x := by
  unfold Ar.rd
  rw [Int.toNat_natCast, Int.toNat_natCast, e]
  rfl
theorem has_word {A : Ar} {h i x : Nat} (e : A.word h i = some x) (hh : h < 18446744073709551616) : A.Has (h : Int) (i : Int) :=
  ⟨by omega, by omega, by omega, by rw [Int.toNat_natCast, Int.toNat_natCast, e]; rfl⟩

/-- Several steps of a count. -/
def runC : Nat → Cnt → Cnt
  | 0, st => st
  | n + 1, st => stepC (runC n st)
def runA : Nat → Cnt → Ar → Ar
  | 0, _, A => A
  | n + 1, st, A => stepA (runC n st) (runA n st A)
/-- How often a word is one that the first n steps of a count from a slot's node add to. -/
def onPath (s n g' i : Nat) (sg : Nat) : Nat := if g' = sg then ((List.range n).filter fun j => decide (i = 5 * 2 ^ segG s + (s + 1) / 2 ^ j)).length else 0
theorem path_inj {s a b : Nat} (ha : a ≤ segG s) (hb : b ≤ segG s) (h : (s + 1) / 2 ^ a = (s + 1) / 2 ^ b) : a = b := by
  have key : ∀ a b, a < b → b ≤ segG s → (s + 1) / 2 ^ a ≠ (s + 1) / 2 ^ b := by
    intro a b hab hb he
    have hpos : 0 < (s + 1) / 2 ^ b := by
      have h2 : 2 ^ segG s ≤ s + 1 := Nat.log2_self_le (by omega)
      exact Nat.div_pos (Nat.le_trans (Nat.pow_le_pow_right (by omega) hb) h2) (Nat.two_pow_pos b)
    have h3 : (s + 1) / 2 ^ b ≤ (s + 1) / 2 ^ (a + 1) := Nat.div_le_div_left (Nat.pow_le_pow_right (by omega) hab) (Nat.two_pow_pos _)
    rw [path_half] at h3
    omega
  rcases Nat.lt_trichotomy a b with h1 | h1 | h1
  · exact absurd h (key a b h1 hb)
  · exact h1
  · exact absurd h.symm (key b a h1 ha)
theorem onPath_succ {s n g' i sg : Nat} : onPath s (n + 1) g' i sg = onPath s n g' i sg + (if g' = sg ∧ i = 5 * 2 ^ segG s + (s + 1) / 2 ^ n then 1 else 0) := by
  unfold onPath
  by_cases hg : g' = sg
  · simp only [hg, if_true, true_and, List.range_succ, List.filter_append, List.length_append]
    congr 1
    by_cases hi : i = 5 * 2 ^ segG s + (s + 1) / 2 ^ n <;> simp [hi]
  · simp [hg]
theorem onPath_le {s n g' i sg : Nat} (hn : n ≤ segG s + 1) : onPath s n g' i sg ≤ 1 := by
  induction n with
  | zero => simp [onPath]
  | succ n ih =>
    rw [onPath_succ]
    by_cases hc : g' = sg ∧ i = 5 * 2 ^ segG s + (s + 1) / 2 ^ n
    · rw [if_pos hc]
      have : onPath s n g' i sg = 0 := by
        unfold onPath
        rw [if_pos hc.1, List.length_eq_zero_iff, List.filter_eq_nil_iff]
        intro j hj
        have hj := List.mem_range.1 hj
        simp only [decide_eq_true_eq]
        intro e
        have := path_inj (s := s) (a := j) (b := n) (by omega) (by omega) (by omega)
        omega
      omega
    · rw [if_neg hc]
      have := ih (by omega)
      omega
theorem path_node {s j : Nat} (hs : s ≤ 254) (hj : j ≤ segG s) : (s + 1) / 2 ^ j < 2 * 2 ^ segG s := by
  have := (seg_facts hs).2.2
  have h2 : (s + 1) / 2 ^ j ≤ s + 1 := Nat.div_le_self _ _
  omega
theorem run_steps {A : Ar} {sg s : Nat} (hs : s ≤ 254) (hsg : sg ≠ 0) (hlt : sg < 18446744073709551616) (hw : ∀ j, j ≤ segG s → ∃ x, A.word sg (5 * 2 ^ segG s + (s + 1) / 2 ^ j) = some x ∧ x + 1 < TW) : ∀ n,
    runC n ⟨sg, s, 0, segG s + 1, 1⟩ = ⟨sg, s, min n (segG s + 1), segG s + 1, 1⟩ ∧ (∀ k i, (runA n ⟨sg, s, 0, segG s + 1, 1⟩ A).word k i = (A.word k i).map (· + onPath s (min n (segG s + 1)) k i sg)) ∧
      (runA n ⟨sg, s, 0, segG s + 1, 1⟩ A).faults = A.faults ∧ CntOk (runC n ⟨sg, s, 0, segG s + 1, 1⟩) (runA n ⟨sg, s, 0, segG s + 1, 1⟩ A) := by
  have ok : ∀ n, runC n ⟨sg, s, 0, segG s + 1, 1⟩ = ⟨sg, s, min n (segG s + 1), segG s + 1, 1⟩ → (∀ k i, (runA n ⟨sg, s, 0, segG s + 1, 1⟩ A).word k i = (A.word k i).map (· + onPath s (min n (segG s + 1)) k i sg)) → CntOk (runC n ⟨sg, s, 0, segG s + 1, 1⟩) (runA n ⟨sg, s, 0, segG s + 1, 1⟩ A) := by
    intro n h1 h2
    rw [h1]
    refine ⟨hs, Nat.le_refl _, hsg, fun hf => ?_⟩
    simp only at hf
    obtain ⟨x, hx, _⟩ := hw (min n (segG s + 1)) (by omega)
    have h3 := h2 sg (5 * 2 ^ segG s + (s + 1) / 2 ^ min n (segG s + 1))
    rw [hx] at h3
    exact has_word h3 hlt
  intro n
  induction n with
  | zero =>
    have h2 : ∀ k i, (runA 0 ⟨sg, s, 0, segG s + 1, 1⟩ A).word k i = (A.word k i).map (· + onPath s (min 0 (segG s + 1)) k i sg) := fun k i => by
      have : onPath s (min 0 (segG s + 1)) k i sg = 0 := by simp [onPath]
      rw [this]
      simp [runA]
    have h1 : runC 0 ⟨sg, s, 0, segG s + 1, 1⟩ = ⟨sg, s, min 0 (segG s + 1), segG s + 1, 1⟩ := by simp [runC]
    exact ⟨h1, h2, rfl, ok 0 h1 h2⟩
  | succ n ih =>
    obtain ⟨h1, h2, h3, h4⟩ := ih
    by_cases hf : n < segG s + 1
    · have e1 : min n (segG s + 1) = n := by omega
      have e2 : min (n + 1) (segG s + 1) = n + 1 := by omega
      rw [e1] at h1 h2
      have hc : runC (n + 1) ⟨sg, s, 0, segG s + 1, 1⟩ = ⟨sg, s, min (n + 1) (segG s + 1), segG s + 1, 1⟩ := by
        simp only [runC, h1, stepC, e2, if_pos hf]
      have ha : runA (n + 1) ⟨sg, s, 0, segG s + 1, 1⟩ A = (runA n ⟨sg, s, 0, segG s + 1, 1⟩ A).add (sg : Nat) ((5 * 2 ^ segG s + (s + 1) / 2 ^ n : Nat) : Int) ((1 : Nat) : Int) := by
        simp only [runA, h1, stepA, if_pos hf]
        rfl
      obtain ⟨x, hx, hx1⟩ := hw n (by omega)
      have hz : onPath s n sg (5 * 2 ^ segG s + (s + 1) / 2 ^ n) sg = 0 := by
        have := onPath_le (s := s) (n := n + 1) (g' := sg) (i := 5 * 2 ^ segG s + (s + 1) / 2 ^ n) (sg := sg) (by omega)
        rw [onPath_succ, if_pos ⟨rfl, rfl⟩] at this
        omega
      have hwn : (runA n ⟨sg, s, 0, segG s + 1, 1⟩ A).word sg (5 * 2 ^ segG s + (s + 1) / 2 ^ n) = some x := by
        rw [h2, hx, hz]; rfl
      have hh := has_word hwn hlt
      have hww : ∀ k i, (runA (n + 1) ⟨sg, s, 0, segG s + 1, 1⟩ A).word k i = (A.word k i).map (· + onPath s (min (n + 1) (segG s + 1)) k i sg) := fun k i => by
        rw [ha, Ar.word_add _ _ hh, rd_word hwn, e2, onPath_succ]
        simp only [Int.toNat_natCast]
        by_cases hc : k = sg ∧ i = 5 * 2 ^ segG s + (s + 1) / 2 ^ n
        · rw [if_pos hc, if_pos hc]
          obtain ⟨rfl, rfl⟩ := hc
          rw [hx, hz]
          simp only [Option.map_some, Nat.zero_add, Option.some.injEq]
          unfold addW
          exact Nat.mod_eq_of_lt hx1
        · rw [if_neg hc, if_neg hc, h2]
          rfl
      exact ⟨hc, hww, by rw [ha, Ar.faults_add]; exact h3, ok _ hc hww⟩
    · have e1 : min n (segG s + 1) = segG s + 1 := by omega
      have e2 : min (n + 1) (segG s + 1) = segG s + 1 := by omega
      rw [e1] at h1 h2
      have hc : runC (n + 1) ⟨sg, s, 0, segG s + 1, 1⟩ = ⟨sg, s, min (n + 1) (segG s + 1), segG s + 1, 1⟩ := by
        simp only [runC, h1, stepC, e2, Nat.lt_irrefl, if_false]
      have ha : runA (n + 1) ⟨sg, s, 0, segG s + 1, 1⟩ A = runA n ⟨sg, s, 0, segG s + 1, 1⟩ A := by
        simp only [runA, h1, stepA, Nat.lt_irrefl, if_false]
      have hww : ∀ k i, (runA (n + 1) ⟨sg, s, 0, segG s + 1, 1⟩ A).word k i = (A.word k i).map (· + onPath s (min (n + 1) (segG s + 1)) k i sg) := fun k i => by
        rw [ha, h2, e2]
      exact ⟨hc, hww, by rw [ha]; exact h3, ok _ hc hww⟩
theorem has_fixed (A : Ar) {i : Nat} (h : i < 9) : A.Has 0 (i : Int) := ⟨Int.le_refl 0, by decide, Int.natCast_nonneg i, by
  unfold Ar.word
  rw [Int.toNat_natCast, if_pos (by rfl), if_pos h]
  rfl⟩
theorem rd_write {A : Ar} {h i : Int} (y : Int) (hs : A.Has h i) (k j : Int) : (A.write h i y).rd k j = if k.toNat = h.toNat ∧ j.toNat = i.toNat then y.toNat else A.rd k j := by
  unfold Ar.rd
  rw [Ar.word_write A y hs]
  split <;> rfl
theorem has_write {A : Ar} {h i : Int} (y : Int) (hs : A.Has h i) {k j : Int} (hk : A.Has k j) : (A.write h i y).Has k j := ⟨hk.1, hk.2.1, hk.2.2.1, by
  rw [Ar.word_write A y hs]
  split
  · rfl
  · exact hk.2.2.2⟩

theorem has_fixed0 (A : Ar) : A.Has 0 0 := has_fixed A (i := 0) (by omega)
end Go.Proofs.Ytnfpkadepomjjaa
