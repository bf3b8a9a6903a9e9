/- CountTops: what the topmost counters and the slots' own ones tell. No program in sight. -/
import Derived.Test.YtnfpkadepomjjaaWords
import Derived.Test.YtnfpkadepomjjaaBaseSeg
set_option linter.all false
namespace Go.Proofs.Ytnfpkadepomjjaa
open Go Go.RowKit

/-- The slots that are entered. -/
def slF (W : World) (a : Option Addr) (j : Nat) : Nat := (seenInt .u8 W (addOpt a j) % 15).toNat
theorem slF_le (W : World) (a : Option Addr) (j : Nat) : slF W a j ≤ 14 := by
  unfold slF
  have := Int.emod_lt_of_pos (seenInt .u8 W (addOpt a j)) (show (0 : Int) < 15 by omega)
  omega
def countF (p : Nat → Bool) : Nat → Nat
  | 0 => 0
  | k + 1 => countF p k + (if p k = true then 1 else 0)
theorem countF_le (p : Nat → Bool) (k : Nat) : countF p k ≤ k := by
  induction k with
  | zero => exact Nat.le_refl _
  | succ k ih => simp only [countF]; split <;> omega
def topsF (sl : Nat → Nat) (k g : Nat) : Nat := countF (fun j => decide (segG (sl j) = g)) k
def ownF (sl : Nat → Nat) (k s : Nat) : Nat := countF (fun j => decide (sl j = s)) k
/-- How often a word has been added to. -/
def hitF (sl : Nat → Nat) (h i : Nat) : Nat → Nat
  | 0 => 0
  | k + 1 => hitF sl h i k + onPath (sl k) (segG (sl k) + 1) h i ((segG (sl k) + 1) * 65537)
theorem hitF_le (sl : Nat → Nat) (h i k : Nat) : hitF sl h i k ≤ k := by
  induction k with
  | zero => exact Nat.le_refl _
  | succ k ih =>
    simp only [hitF]
    have := onPath_le (s := sl k) (n := segG (sl k) + 1) (g' := h) (i := i) (sg := (segG (sl k) + 1) * 65537) (Nat.le_refl _)
    omega
theorem segG_14 {s : Nat} (h : s ≤ 14) : segG s ≤ 3 := by
  have h1 := (seg_facts (s := s) (by omega)).2.1
  rcases Nat.lt_or_ge (segG s) 4 with h2 | h2
  · omega
  · have : 2 ^ 4 ≤ 2 ^ segG s := Nat.pow_le_pow_right (by omega) h2
    omega
theorem onPath_one {s n h i sg : Nat} (hn : n ≤ segG s + 1) : onPath s n h i sg = if (h = sg ∧ ∃ j, j < n ∧ i = 5 * 2 ^ segG s + (s + 1) / 2 ^ j) then 1 else 0 := by
  induction n with
  | zero => simp [onPath]
  | succ n ih =>
    have hle := onPath_le (s := s) (n := n + 1) (g' := h) (i := i) (sg := sg) hn
    rw [onPath_succ] at hle ⊢
    rw [ih (by omega)] at hle ⊢
    by_cases h1 : h = sg ∧ ∃ j, j < n ∧ i = 5 * 2 ^ segG s + (s + 1) / 2 ^ j
    · rw [if_pos h1] at hle ⊢
      have h2 : ¬ (h = sg ∧ i = 5 * 2 ^ segG s + (s + 1) / 2 ^ n) := fun e => by rw [if_pos e] at hle; omega
      rw [if_neg h2, if_pos ⟨h1.1, by obtain ⟨j, hj, e⟩ := h1.2; exact ⟨j, by omega, e⟩⟩]
    · rw [if_neg h1]
      by_cases h2 : h = sg ∧ i = 5 * 2 ^ segG s + (s + 1) / 2 ^ n
      · rw [if_pos h2, if_pos ⟨h2.1, n, by omega, h2.2⟩]
      · rw [if_neg h2, if_neg]
        rintro ⟨e, j, hj, ej⟩
        by_cases hjn : j = n
        · subst hjn; exact h2 ⟨e, ej⟩
        · exact h1 ⟨e, j, by omega, ej⟩
theorem top_node {s : Nat} (hs : s ≤ 254) : (s + 1) / 2 ^ segG s = 1 := by
  obtain ⟨_, h1, h2⟩ := seg_facts hs
  have hp : 0 < 2 ^ segG s := Nat.two_pow_pos _
  exact Nat.div_eq_of_lt_le (by omega) (by omega)
theorem hit_top {sl : Nat → Nat} (hsl : ∀ j, sl j ≤ 14) {g : Nat} (k : Nat) : hitF sl ((g + 1) * 65537) (5 * 2 ^ g + 1) k = topsF sl k g := by
  induction k with
  | zero => rfl
  | succ k ih =>
    simp only [hitF, topsF, countF] at ih ⊢
    rw [ih]
    congr 1
    rw [onPath_one (Nat.le_refl _)]
    have hs := hsl k
    by_cases e : segG (sl k) = g
    · subst e
      rw [if_pos ⟨rfl, segG (sl k), by omega, by rw [top_node (by omega)]⟩]
      simp
    · rw [if_neg (by rintro ⟨h, _⟩; omega)]
      simp [e]
theorem hit_own {sl : Nat → Nat} (hsl : ∀ j, sl j ≤ 14) {s : Nat} (hs : s ≤ 14) (k : Nat) : hitF sl ((segG s + 1) * 65537) (5 * 2 ^ segG s + (s + 1)) k = ownF sl k s := by
  induction k with
  | zero => rfl
  | succ k ih =>
    simp only [hitF, ownF, countF] at ih ⊢
    rw [ih]
    congr 1
    rw [onPath_one (Nat.le_refl _)]
    have hs' := hsl k
    by_cases e : sl k = s
    · subst e
      rw [if_pos ⟨rfl, 0, by omega, by simp⟩]
      simp
    · rw [if_neg]
      · simp [e]
      · rintro ⟨h, j, hj, ej⟩
        have hg : segG (sl k) = segG s := by omega
        rw [hg] at ej hj
        have h1 := (seg_facts (s := s) (by omega)).2.1
        have h2 := (seg_facts (s := sl k) (by omega)).2.2
        rw [hg] at h2
        cases j with
        | zero => simp at ej; omega
        | succ j =>
          have h3 : (sl k + 1) / 2 ^ (j + 1) ≤ (sl k + 1) / 2 := by
            rw [Nat.pow_succ, Nat.mul_comm, ← Nat.div_div_eq_div_mul]
            exact Nat.div_le_self _ _
          omega
/-- What holds behind k of them. -/
def TopInv (A0 : Ar) (sl : Nat → Nat) (k : Nat) (A : Ar) : Prop := A.faults = 0 ∧ ∀ h i, A.word h i = (A0.word h i).map (· + hitF sl h i k)
theorem seg_word {n : Nat} {A : Ar} (h : SegOk n A) {g i : Nat} (hg : g < n) (hi : i < 7 * 2 ^ g) : A.word ((g + 1) * 65537) i = some 0 := by
  obtain ⟨v, hv⟩ := h.blk g hg
  unfold Ar.word
  rw [if_neg (by omega), hv]
  simp [hi]
theorem TopInv.zero {A0 : Ar} (h : SegOk 4 A0) (sl : Nat → Nat) : TopInv A0 sl 0 A0 := ⟨h.faults, fun k i => by simp [hitF]⟩
theorem TopInv.steps {A0 A : Ar} {sl : Nat → Nat} {k : Nat} (h0 : SegOk 4 A0) (hsl : ∀ j, sl j ≤ 14) (h : TopInv A0 sl k A) (hk : k ≤ 100) (n : Nat) :
    CntOk (runC n ⟨(segG (sl k) + 1) * 65537, sl k, 0, segG (sl k) + 1, 1⟩) (runA n ⟨(segG (sl k) + 1) * 65537, sl k, 0, segG (sl k) + 1, 1⟩ A) ∧ (8 ≤ n → TopInv A0 sl (k + 1) (runA n ⟨(segG (sl k) + 1) * 65537, sl k, 0, segG (sl k) + 1, 1⟩ A)) := by
  have hs := hsl k
  have hg := segG_14 hs
  have hw : ∀ j, j ≤ segG (sl k) → ∃ x, A.word ((segG (sl k) + 1) * 65537) (5 * 2 ^ segG (sl k) + (sl k + 1) / 2 ^ j) = some x ∧ x + 1 < TW := fun j hj => by
    have h1 := path_node (s := sl k) (by omega) hj
    rw [h.2, seg_word h0 (by omega) (by omega)]
    refine ⟨_, rfl, ?_⟩
    have := hitF_le sl ((segG (sl k) + 1) * 65537) (5 * 2 ^ segG (sl k) + (sl k + 1) / 2 ^ j) k
    unfold TW
    simp only [Nat.zero_add]
    omega
  obtain ⟨r1, r2, r3, r4⟩ := run_steps (A := A) (sg := (segG (sl k) + 1) * 65537) (s := sl k) (by omega) (by omega) (by omega) hw n
  refine ⟨r4, fun hn => ⟨by rw [r3]; exact h.1, fun x i => ?_⟩⟩
  rw [r2, h.2, Option.map_map]
  congr 1
  funext y
  simp only [Function.comp, hitF]
  have e : min n (segG (sl k) + 1) = segG (sl k) + 1 := by omega
  rw [e]
  omega
theorem TopInv.rd {A0 A : Ar} {sl : Nat → Nat} {k : Nat} (h0 : SegOk 4 A0) (h : TopInv A0 sl k A) {g i : Nat} (hg : g < 4) (hi : i < 7 * 2 ^ g) : A.word ((g + 1) * 65537) i = some (hitF sl ((g + 1) * 65537) i k) := by
  rw [h.2, seg_word h0 hg hi]
  simp
end Go.Proofs.Ytnfpkadepomjjaa

/- CountTops: the state of its loop, told of plainly. -/
namespace Go.Proofs.Ytnfpkadepomjjaa
open Go Go.RowKit
abbrev YT (W : World) (a : Option Addr) (len : Nat) : Type := { y : Nat × Ar × Ar // y.1 ≤ len ∧ SegOk 4 y.2.1 ∧ TopInv y.2.1 (slF W a) y.1 y.2.2 }
variable {W : World} {a : Option Addr} {len : Nat}
def stY (y : YT W a len) : Cnt := enterC (hsF (segG (slF W a y.1.1))) (seenInt .u8 W (addOpt a y.1.1) % 15)
theorem stY_eq (y : YT W a len) : stY y = ⟨(segG (slF W a y.1.1) + 1) * 65537, slF W a y.1.1, 0, segG (slF W a y.1.1) + 1, 1⟩ := by
  unfold stY enterC hsF
  rw [Int.toNat_natCast]
  rfl
theorem stepsY (y : YT W a len) (h40 : len ≤ 40) (n : Nat) : CntOk (runC n (stY y)) (runA n (stY y) y.1.2.2) ∧ (8 ≤ n → TopInv y.1.2.1 (slF W a) (y.1.1 + 1) (runA n (stY y) y.1.2.2)) := by
  rw [stY_eq]
  exact TopInv.steps y.2.2.1 (slF_le W a) y.2.2.2 (by have := y.2.1; omega) n
def mkY (k : Nat) (A0 A1 : Ar) (h1 : k ≤ len) (h2 : SegOk 4 A0) (h3 : TopInv A0 (slF W a) k A1) : YT W a len := ⟨(k, A0, A1), h1, h2, h3⟩
def lastY (y : YT W a len) : Ar := (stepA (stepC (stepC (stepC (stepC (stepC (stepC (stepC (stepC (stY y))))))))) (stepA (stepC (stepC (stepC (stepC (stepC (stepC (stepC (stY y)))))))) (stepA (stepC (stepC (stepC (stepC (stepC (stepC (stY y))))))) (stepA (stepC (stepC (stepC (stepC (stepC (stY y)))))) (stepA (stepC (stepC (stepC (stepC (stY y))))) (stepA (stepC (stepC (stepC (stY y)))) (stepA (stepC (stepC (stY y))) (stepA (stepC (stY y)) (stepA (stY y) y.1.2.2)))))))))
theorem lastY_inv (y : YT W a len) (h40 : len ≤ 40) : TopInv y.1.2.1 (slF W a) (y.1.1 + 1) (lastY y) := (stepsY y h40 9).2 (by omega)
def nextY (y : YT W a len) (h : y.1.1 < len) (h40 : len ≤ 40) : YT W a len := mkY (y.1.1 + 1) y.1.2.1 (lastY y) h y.2.2.1 (lastY_inv y h40)
theorem okY0 (y : YT W a len) (h40 : len ≤ 40) : CntOk (stY y) y.1.2.2 := (stepsY y h40 0).1
theorem okY1 (y : YT W a len) (h40 : len ≤ 40) : CntOk (stepC (stY y)) (stepA (stY y) y.1.2.2) := (stepsY y h40 1).1
theorem okY2 (y : YT W a len) (h40 : len ≤ 40) : CntOk (stepC (stepC (stY y))) (stepA (stepC (stY y)) (stepA (stY y) y.1.2.2)) := (stepsY y h40 2).1
theorem okY3 (y : YT W a len) (h40 : len ≤ 40) : CntOk (stepC (stepC (stepC (stY y)))) (stepA (stepC (stepC (stY y))) (stepA (stepC (stY y)) (stepA (stY y) y.1.2.2))) := (stepsY y h40 3).1
theorem okY4 (y : YT W a len) (h40 : len ≤ 40) : CntOk (stepC (stepC (stepC (stepC (stY y))))) (stepA (stepC (stepC (stepC (stY y)))) (stepA (stepC (stepC (stY y))) (stepA (stepC (stY y)) (stepA (stY y) y.1.2.2)))) := (stepsY y h40 4).1
theorem okY5 (y : YT W a len) (h40 : len ≤ 40) : CntOk (stepC (stepC (stepC (stepC (stepC (stY y)))))) (stepA (stepC (stepC (stepC (stepC (stY y))))) (stepA (stepC (stepC (stepC (stY y)))) (stepA (stepC (stepC (stY y))) (stepA (stepC (stY y)) (stepA (stY y) y.1.2.2))))) := (stepsY y h40 5).1
theorem okY6 (y : YT W a len) (h40 : len ≤ 40) : CntOk (stepC (stepC (stepC (stepC (stepC (stepC (stY y))))))) (stepA (stepC (stepC (stepC (stepC (stepC (stY y)))))) (stepA (stepC (stepC (stepC (stepC (stY y))))) (stepA (stepC (stepC (stepC (stY y)))) (stepA (stepC (stepC (stY y))) (stepA (stepC (stY y)) (stepA (stY y) y.1.2.2)))))) := (stepsY y h40 6).1
theorem okY7 (y : YT W a len) (h40 : len ≤ 40) : CntOk (stepC (stepC (stepC (stepC (stepC (stepC (stepC (stY y)))))))) (stepA (stepC (stepC (stepC (stepC (stepC (stepC (stY y))))))) (stepA (stepC (stepC (stepC (stepC (stepC (stY y)))))) (stepA (stepC (stepC (stepC (stepC (stY y))))) (stepA (stepC (stepC (stepC (stY y)))) (stepA (stepC (stepC (stY y))) (stepA (stepC (stY y)) (stepA (stY y) y.1.2.2))))))) := (stepsY y h40 7).1
theorem okY8 (y : YT W a len) (h40 : len ≤ 40) : CntOk (stepC (stepC (stepC (stepC (stepC (stepC (stepC (stepC (stY y))))))))) (stepA (stepC (stepC (stepC (stepC (stepC (stepC (stepC (stY y)))))))) (stepA (stepC (stepC (stepC (stepC (stepC (stepC (stY y))))))) (stepA (stepC (stepC (stepC (stepC (stepC (stY y)))))) (stepA (stepC (stepC (stepC (stepC (stY y))))) (stepA (stepC (stepC (stepC (stY y)))) (stepA (stepC (stepC (stY y))) (stepA (stepC (stY y)) (stepA (stY y) y.1.2.2)))))))) := (stepsY y h40 8).1
theorem topY (y : YT W a len) {g : Nat} (hg : g < 4) : y.1.2.2.Has (((g + 1) * 65537 : Nat) : Int) ((5 * 2 ^ g + 1 : Nat) : Int) ∧ y.1.2.2.rd (((g + 1) * 65537 : Nat) : Int) ((5 * 2 ^ g + 1 : Nat) : Int) = topsF (slF W a) y.1.1 g := by
  have h1 : 1 ≤ 2 ^ g := Nat.one_le_two_pow
  have h := TopInv.rd y.2.2.1 y.2.2.2 hg (i := 5 * 2 ^ g + 1) (by omega)
  rw [hit_top (slF_le W a)] at h
  exact ⟨has_word h (by omega), rd_word h⟩
theorem ownY (y : YT W a len) {s : Nat} (hs : s ≤ 14) : y.1.2.2.Has (((segG s + 1) * 65537 : Nat) : Int) ((5 * 2 ^ segG s + (s + 1) : Nat) : Int) ∧ y.1.2.2.rd (((segG s + 1) * 65537 : Nat) : Int) ((5 * 2 ^ segG s + (s + 1) : Nat) : Int) = ownF (slF W a) y.1.1 s := by
  have hg := segG_14 hs
  have h1 := (seg_facts (s := s) (by omega)).2.2
  have h := TopInv.rd y.2.2.1 y.2.2.2 (g := segG s) (by omega) (i := 5 * 2 ^ segG s + (s + 1)) (by omega)
  rw [hit_own (slF_le W a) hs] at h
  exact ⟨has_word h (by omega), rd_word h⟩
theorem neqF {x y : Nat} (h : x = y) : ((x : Int) != (y : Int)) = false := by subst h; simp
theorem topsF_succ (sl : Nat → Nat) (k i g : Nat) (hg : segG (sl k) = g) : (topsF sl (k + 1) i : Int) = if i = g then (topsF sl k g : Int) + 1 else (topsF sl k i : Int) := by
  subst hg
  unfold topsF
  simp only [countF, decide_eq_true_eq]
  by_cases h : segG (sl k) = i
  · subst h; simp
  · rw [if_neg h, if_neg (fun e => h e.symm)]; simp
theorem ownF_succ (sl : Nat → Nat) (k i s : Nat) (hs : sl k = s) : (ownF sl (k + 1) i : Int) = if i = s then (ownF sl k s : Int) + 1 else (ownF sl k i : Int) := by
  subst hs
  unfold ownF
  simp only [countF, decide_eq_true_eq]
  by_cases h : sl k = i
  · subst h; simp
  · rw [if_neg h, if_neg (fun e => h e.symm)]; simp
theorem okZ0 (y : YT W a len) (h40 : len ≤ 40) {st : Cnt} (e : st = stY y) : CntOk st y.1.2.2 := by
  subst e
  exact okY0 y h40
theorem okZ1 (y : YT W a len) (h40 : len ≤ 40) {st : Cnt} (e : st = stY y) : CntOk (stepC st) (stepA st y.1.2.2) := by
  subst e
  exact okY1 y h40
theorem okZ2 (y : YT W a len) (h40 : len ≤ 40) {st : Cnt} (e : st = stY y) : CntOk (stepC (stepC st)) (stepA (stepC st) (stepA st y.1.2.2)) := by
  subst e
  exact okY2 y h40
theorem okZ3 (y : YT W a len) (h40 : len ≤ 40) {st : Cnt} (e : st = stY y) : CntOk (stepC (stepC (stepC st))) (stepA (stepC (stepC st)) (stepA (stepC st) (stepA st y.1.2.2))) := by
  subst e
  exact okY3 y h40
theorem okZ4 (y : YT W a len) (h40 : len ≤ 40) {st : Cnt} (e : st = stY y) : CntOk (stepC (stepC (stepC (stepC st)))) (stepA (stepC (stepC (stepC st))) (stepA (stepC (stepC st)) (stepA (stepC st) (stepA st y.1.2.2)))) := by
  subst e
  exact okY4 y h40
theorem okZ5 (y : YT W a len) (h40 : len ≤ 40) {st : Cnt} (e : st = stY y) : CntOk (stepC (stepC (stepC (stepC (stepC st))))) (stepA (stepC (stepC (stepC (stepC st)))) (stepA (stepC (stepC (stepC st))) (stepA (stepC (stepC st)) (stepA (stepC st) (stepA st y.1.2.2))))) := by
  subst e
  exact okY5 y h40
theorem okZ6 (y : YT W a len) (h40 : len ≤ 40) {st : Cnt} (e : st = stY y) : CntOk (stepC (stepC (stepC (stepC (stepC (stepC st)))))) (stepA (stepC (stepC (stepC (stepC (stepC st))))) (stepA (stepC (stepC (stepC (stepC st)))) (stepA (stepC (stepC (stepC st))) (stepA (stepC (stepC st)) (stepA (stepC st) (stepA st y.1.2.2)))))) := by
  subst e
  exact okY6 y h40
theorem okZ7 (y : YT W a len) (h40 : len ≤ 40) {st : Cnt} (e : st = stY y) : CntOk (stepC (stepC (stepC (stepC (stepC (stepC (stepC st))))))) (stepA (stepC (stepC (stepC (stepC (stepC (stepC st)))))) (stepA (stepC (stepC (stepC (stepC (stepC st))))) (stepA (stepC (stepC (stepC (stepC st)))) (stepA (stepC (stepC (stepC st))) (stepA (stepC (stepC st)) (stepA (stepC st) (stepA st y.1.2.2))))))) := by
  subst e
  exact okY7 y h40
theorem okZ8 (y : YT W a len) (h40 : len ≤ 40) {st : Cnt} (e : st = stY y) : CntOk (stepC (stepC (stepC (stepC (stepC (stepC (stepC (stepC st)))))))) (stepA (stepC (stepC (stepC (stepC (stepC (stepC (stepC st))))))) (stepA (stepC (stepC (stepC (stepC (stepC (stepC st)))))) (stepA (stepC (stepC (stepC (stepC (stepC st))))) (stepA (stepC (stepC (stepC (stepC st)))) (stepA (stepC (stepC (stepC st))) (stepA (stepC (stepC st)) (stepA (stepC st) (stepA st y.1.2.2)))))))) := by
  subst e
  exact okY8 y h40
theorem nextY_ar (y : YT W a len) (h : y.1.1 < len) (h40 : len ≤ 40) : (nextY y h h40).1.2.2 = lastY y := by
  unfold nextY mkY
  dsimp only
theorem nextY_k (y : YT W a len) (h : y.1.1 < len) (h40 : len ≤ 40) : (nextY y h h40).1.1 = y.1.1 + 1 := by
  unfold nextY mkY
  dsimp only
theorem nextX (y : YT W a len) (h : y.1.1 < len) (h40 : len ≤ 40) {st : Cnt} (e : st = stY y) : XO.ar (nextY y h h40).1.2.2 = XO.ar (stepA (stepC (stepC (stepC (stepC (stepC (stepC (stepC (stepC st)))))))) (stepA (stepC (stepC (stepC (stepC (stepC (stepC (stepC st))))))) (stepA (stepC (stepC (stepC (stepC (stepC (stepC st)))))) (stepA (stepC (stepC (stepC (stepC (stepC st))))) (stepA (stepC (stepC (stepC (stepC st)))) (stepA (stepC (stepC (stepC st))) (stepA (stepC (stepC st)) (stepA (stepC st) (stepA st y.1.2.2))))))))) := by
  subst e
  rw [nextY_ar]
  unfold lastY
  with_reducible rfl
theorem nextK (y : YT W a len) (h : y.1.1 < len) (h40 : len ≤ 40) : ((nextY y h h40).1.1 : Int) = (y.1.1 : Int) + 1 := by rw [nextY_k]; rfl
theorem nextLt (y : YT W a len) (h : y.1.1 < len) (h40 : len ≤ 40) : len - (nextY y h h40).1.1 < len - y.1.1 := by
  rw [nextY_k]
  omega
theorem nextT (y : YT W a len) (h : y.1.1 < len) (h40 : len ≤ 40) (i : Nat) {g : Nat} (e : g = segG (slF W a y.1.1)) : (topsF (slF W a) (nextY y h h40).1.1 i : Int) = if i = g then (topsF (slF W a) y.1.1 g : Int) + 1 else (topsF (slF W a) y.1.1 i : Int) := by rw [nextY_k]; exact topsF_succ _ _ i g e.symm
theorem nextO (y : YT W a len) (h : y.1.1 < len) (h40 : len ≤ 40) (i : Nat) {g : Nat} (e : g = slF W a y.1.1) : (ownF (slF W a) (nextY y h h40).1.1 i : Int) = if i = g then (ownF (slF W a) y.1.1 g : Int) + 1 else (ownF (slF W a) y.1.1 i : Int) := by rw [nextY_k]; exact ownF_succ _ _ i g e.symm
theorem topLt (y : YT W a len) (h40 : len ≤ 40) (g : Nat) : (topsF (slF W a) y.1.1 g : Int) < 18446744073709551616 := by
  have h1 : topsF (slF W a) y.1.1 g ≤ y.1.1 := countF_le _ _
  have h2 := y.2.1
  omega
theorem ownLt (y : YT W a len) (h40 : len ≤ 40) (g : Nat) : (ownF (slF W a) y.1.1 g : Int) < 18446744073709551616 := by
  have h1 : ownF (slF W a) y.1.1 g ≤ y.1.1 := countF_le _ _
  have h2 := y.2.1
  omega
theorem topLe (y : YT W a len) (h40 : len ≤ 40) (g : Nat) : (topsF (slF W a) y.1.1 g : Int) + 1 ≤ 9223372036854775807 := by
  have h1 : topsF (slF W a) y.1.1 g ≤ y.1.1 := countF_le _ _
  have h2 := y.2.1
  omega
theorem ownLe (y : YT W a len) (h40 : len ≤ 40) (g : Nat) : (ownF (slF W a) y.1.1 g : Int) + 1 ≤ 9223372036854775807 := by
  have h1 : ownF (slF W a) y.1.1 g ≤ y.1.1 := countF_le _ _
  have h2 := y.2.1
  omega
theorem faults_read (A : Ar) : A.read.faults = A.faults := rfl
theorem faultsY (y : YT W a len) : (wr64 y.1.2.2.faults == 0) = true := by
  rw [y.2.2.2.1]
  rfl
theorem hT0 (y : YT W a len) : y.1.2.2.Has 65537 6 := (topY y (g := 0) (by omega)).1
theorem rT0 (y : YT W a len) : ((y.1.2.2.rd 65537 6 : Int) != (topsF (slF W a) y.1.1 0 : Int)) = false := neqF (topY y (g := 0) (by omega)).2
theorem hT1 (y : YT W a len) : y.1.2.2.Has 131074 11 := (topY y (g := 1) (by omega)).1
theorem rT1 (y : YT W a len) : ((y.1.2.2.rd 131074 11 : Int) != (topsF (slF W a) y.1.1 1 : Int)) = false := neqF (topY y (g := 1) (by omega)).2
theorem hT2 (y : YT W a len) : y.1.2.2.Has 196611 21 := (topY y (g := 2) (by omega)).1
theorem rT2 (y : YT W a len) : ((y.1.2.2.rd 196611 21 : Int) != (topsF (slF W a) y.1.1 2 : Int)) = false := neqF (topY y (g := 2) (by omega)).2
theorem hT3 (y : YT W a len) : y.1.2.2.Has 262148 41 := (topY y (g := 3) (by omega)).1
theorem rT3 (y : YT W a len) : ((y.1.2.2.rd 262148 41 : Int) != (topsF (slF W a) y.1.1 3 : Int)) = false := neqF (topY y (g := 3) (by omega)).2
theorem hO0 (y : YT W a len) : y.1.2.2.Has 65537 6 := (ownY y (s := 0) (by omega)).1
theorem rO0 (y : YT W a len) : ((y.1.2.2.rd 65537 6 : Int) != (ownF (slF W a) y.1.1 0 : Int)) = false := neqF (ownY y (s := 0) (by omega)).2
theorem hO1 (y : YT W a len) : y.1.2.2.Has 131074 12 := (ownY y (s := 1) (by omega)).1
theorem rO1 (y : YT W a len) : ((y.1.2.2.rd 131074 12 : Int) != (ownF (slF W a) y.1.1 1 : Int)) = false := neqF (ownY y (s := 1) (by omega)).2
theorem hO2 (y : YT W a len) : y.1.2.2.Has 131074 13 := (ownY y (s := 2) (by omega)).1
theorem rO2 (y : YT W a len) : ((y.1.2.2.rd 131074 13 : Int) != (ownF (slF W a) y.1.1 2 : Int)) = false := neqF (ownY y (s := 2) (by omega)).2
theorem hO3 (y : YT W a len) : y.1.2.2.Has 196611 24 := (ownY y (s := 3) (by omega)).1
theorem rO3 (y : YT W a len) : ((y.1.2.2.rd 196611 24 : Int) != (ownF (slF W a) y.1.1 3 : Int)) = false := neqF (ownY y (s := 3) (by omega)).2
theorem hO4 (y : YT W a len) : y.1.2.2.Has 196611 25 := (ownY y (s := 4) (by omega)).1
theorem rO4 (y : YT W a len) : ((y.1.2.2.rd 196611 25 : Int) != (ownF (slF W a) y.1.1 4 : Int)) = false := neqF (ownY y (s := 4) (by omega)).2
theorem hO5 (y : YT W a len) : y.1.2.2.Has 196611 26 := (ownY y (s := 5) (by omega)).1
theorem rO5 (y : YT W a len) : ((y.1.2.2.rd 196611 26 : Int) != (ownF (slF W a) y.1.1 5 : Int)) = false := neqF (ownY y (s := 5) (by omega)).2
theorem hO6 (y : YT W a len) : y.1.2.2.Has 196611 27 := (ownY y (s := 6) (by omega)).1
theorem rO6 (y : YT W a len) : ((y.1.2.2.rd 196611 27 : Int) != (ownF (slF W a) y.1.1 6 : Int)) = false := neqF (ownY y (s := 6) (by omega)).2
theorem hO7 (y : YT W a len) : y.1.2.2.Has 262148 48 := (ownY y (s := 7) (by omega)).1
theorem rO7 (y : YT W a len) : ((y.1.2.2.rd 262148 48 : Int) != (ownF (slF W a) y.1.1 7 : Int)) = false := neqF (ownY y (s := 7) (by omega)).2
theorem hO8 (y : YT W a len) : y.1.2.2.Has 262148 49 := (ownY y (s := 8) (by omega)).1
theorem rO8 (y : YT W a len) : ((y.1.2.2.rd 262148 49 : Int) != (ownF (slF W a) y.1.1 8 : Int)) = false := neqF (ownY y (s := 8) (by omega)).2
theorem hO9 (y : YT W a len) : y.1.2.2.Has 262148 50 := (ownY y (s := 9) (by omega)).1
theorem rO9 (y : YT W a len) : ((y.1.2.2.rd 262148 50 : Int) != (ownF (slF W a) y.1.1 9 : Int)) = false := neqF (ownY y (s := 9) (by omega)).2
theorem hO10 (y : YT W a len) : y.1.2.2.Has 262148 51 := (ownY y (s := 10) (by omega)).1
theorem rO10 (y : YT W a len) : ((y.1.2.2.rd 262148 51 : Int) != (ownF (slF W a) y.1.1 10 : Int)) = false := neqF (ownY y (s := 10) (by omega)).2
theorem hO11 (y : YT W a len) : y.1.2.2.Has 262148 52 := (ownY y (s := 11) (by omega)).1
theorem rO11 (y : YT W a len) : ((y.1.2.2.rd 262148 52 : Int) != (ownF (slF W a) y.1.1 11 : Int)) = false := neqF (ownY y (s := 11) (by omega)).2
theorem hO12 (y : YT W a len) : y.1.2.2.Has 262148 53 := (ownY y (s := 12) (by omega)).1
theorem rO12 (y : YT W a len) : ((y.1.2.2.rd 262148 53 : Int) != (ownF (slF W a) y.1.1 12 : Int)) = false := neqF (ownY y (s := 12) (by omega)).2
theorem hO13 (y : YT W a len) : y.1.2.2.Has 262148 54 := (ownY y (s := 13) (by omega)).1
theorem rO13 (y : YT W a len) : ((y.1.2.2.rd 262148 54 : Int) != (ownF (slF W a) y.1.1 13 : Int)) = false := neqF (ownY y (s := 13) (by omega)).2
theorem hO14 (y : YT W a len) : y.1.2.2.Has 262148 55 := (ownY y (s := 14) (by omega)).1
theorem rO14 (y : YT W a len) : ((y.1.2.2.rd 262148 55 : Int) != (ownF (slF W a) y.1.1 14 : Int)) = false := neqF (ownY y (s := 14) (by omega)).2
end Go.Proofs.Ytnfpkadepomjjaa
