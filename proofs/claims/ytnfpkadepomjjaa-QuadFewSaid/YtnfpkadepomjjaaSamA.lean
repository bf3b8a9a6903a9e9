/- Two arenas against one another (layer 3): their blocks' words. -/
import Derived.Test.YtnfpkadepomjjaaBaseC
import Derived.Test.YtnfpkadepomjjaaBaseS
set_option linter.all false
namespace Go.Proofs.Ytnfpkadepomjjaa
open Go Go.RowKit
set_option maxRecDepth 1000000
set_option maxHeartbeats 0
/-- What may stand for a map: an arena's blocks, and their rows. -/
def XB : EXT where
  X := List Blk
  den := fun _ b x => mapAt b (x.map ent) * rowsAt x
  names := fun _ => []
  ren := fun _ x => x
  law := fun _ _ _ _ _ => rfl
  rlaw := fun _ _ _ _ => rfl
def eqR (n m : Nat) (f g : Nat → Int) : Bool := (n == m) && (List.range n).all fun j => f j == g j
theorem eqR_no {n m : Nat} {f g : Nat → Int} (h : n ≠ m) : eqR n m f g = false := by simp [eqR, h]
theorem eqR_diff {n m i : Nat} {f g : Nat → Int} (h : i < n) (hf : f i ≠ g i) : eqR n m f g = false := by
  unfold eqR
  rw [Bool.and_eq_false_iff]
  right
  rw [List.all_eq_false]
  exact ⟨i, List.mem_range.2 h, by simpa using hf⟩
theorem eqR_yes {n m : Nat} {f g : Nat → Int} (h : n = m) (hf : ∀ j, j < n → f j = g j) : eqR n m f g = true := by
  subst h
  simp only [eqR, beq_self_eq_true, Bool.true_and, List.all_eq_true, List.mem_range, beq_iff_eq]
  exact hf
abbrev EqY (n : Nat) (f g : Nat → Int) : Type := {i : Nat // i ≤ n ∧ ∀ j, j < i → f j = g j}
def eqS (n : Nat) (f g : Nat → Int) : Scr XB := .inv (liveL [0, 1, 4, 5, 12, 13]) [] (EqY n f g) (fun _ y => ([(13, .c (.int false .i64 (y.1 : Int)))], [])) (fun y => n - y.1) fun _ => bN 3
/-- What the executor leaves to be shown of slices.Equal[[]uint64,uint64], written out. -/
theorem equal_vc (n m c d : Nat) (f g : Nat → Int) : (callN Try.prog ([] : List (Smry Try.prog XB)) (fun _ _ => false) 100 20 155 [.c (.sli 0 1 true 0 false n c), .c (.sli 1 1 true 0 false m d)] ⟨[(0, .ints 25 .u64 n c f), (1, .ints 25 .u64 m d g)], 100⟩ (.both .nil (eqS n f g)) (fun v m' _ => outM (.c (.boo false (eqR n m f g))) [(0, .ints 25 .u64 n c f), (1, .ints 25 .u64 m d g)] v m')) = (
    (((↑n : Int) != (↑m : Int)) = true → eqR n m f g = false ∧ (n = n ∧ c = c ∧ ∀ (i : Nat), i < n → f i = f i) ∧ (m = m ∧ d = d ∧ ∀ (i : Nat), i < m → g i = g i) ∧ True) ∧ (((↑n : Int)
    != (↑m : Int)) = false → (∃ (y : EqY n f g), (0 : Nat) = (0 : Nat) ∧ n = n ∧ c = c ∧ (0 : Nat) = (0 : Nat) ∧ m = m ∧ d = d ∧ (↑n : Int) = (↑n : Int) ∧ n = n ∧ c = c ∧ f = f ∧ m = m
    ∧ d = d ∧ g = g ∧ (↑y.val : Int) = (0 : Int) ∧ True) ∧ ∀ (y : EqY n f g) (ρ : Nat → Value), (decide ((↑y.val : Int) < (↑n : Int)) = true → ((0 : Int) ≤ (↑y.val : Int) ∧ (↑y.val :
    Int) < (↑n : Int)) ∧ addO true (0 : Nat) (↑y.val : Int).toNat < n ∧ ((0 : Int) ≤ (↑y.val : Int) ∧ (↑y.val : Int) < (↑m : Int)) ∧ addO true (0 : Nat) (↑y.val : Int).toNat < m ∧ ((f
    (addO true (0 : Nat) (↑y.val : Int).toNat) != g (addO true (0 : Nat) (↑y.val : Int).toNat)) = true → eqR n m f g = false ∧ (n = n ∧ c = c ∧ ∀ (i : Nat), i < n → f i = f i) ∧ (m = m
    ∧ d = d ∧ ∀ (i : Nat), i < m → g i = g i) ∧ True) ∧ ((f (addO true (0 : Nat) (↑y.val : Int).toNat) != g (addO true (0 : Nat) (↑y.val : Int).toNat)) = false → ((-9223372036854775808
    : Int) ≤ (↑y.val : Int) + (1 : Int) ∧ (↑y.val : Int) + (1 : Int) ≤ (9223372036854775807 : Int)) ∧ ∃ (y' : EqY n f g), n - y'.val < n - y.val ∧ (0 : Nat) = (0 : Nat) ∧ n = n ∧ c = c
    ∧ (0 : Nat) = (0 : Nat) ∧ m = m ∧ d = d ∧ (↑n : Int) = (↑n : Int) ∧ n = n ∧ c = c ∧ f = f ∧ m = m ∧ d = d ∧ g = g ∧ (↑y'.val : Int) = (↑y.val : Int) + (1 : Int) ∧ True)) ∧ (decide
    ((↑y.val : Int) < (↑n : Int)) = false → eqR n m f g = true ∧ (n = n ∧ c = c ∧ ∀ (i : Nat), i < n → f i = f i) ∧ (m = m ∧ d = d ∧ ∀ (i : Nat), i < m → g i = g i) ∧ True))) := by
  kernel_rfl
theorem equal_run (n m c d : Nat) (f g : Nat → Int) (hc : n ≤ 100000 ∧ m ≤ 100000) : Run (callN Try.prog ([] : List (Smry Try.prog XB)) (fun _ _ => false) 100 20 155 [.c (.sli 0 1 true 0 false n c), .c (.sli 1 1 true 0 false m d)] ⟨[(0, .ints 25 .u64 n c f), (1, .ints 25 .u64 m d g)], 100⟩ (.both .nil (eqS n f g)) (fun v m' _ => outM (.c (.boo false (eqR n m f g))) [(0, .ints 25 .u64 n c f), (1, .ints 25 .u64 m d g)] v m')) := by
  constructor
  rw [equal_vc]
  obtain ⟨hn, hm⟩ := hc
  refine ⟨fun h => ⟨eqR_no (by have := bne_iff_ne.1 h; omega), ?_⟩, fun h => ?_⟩
  · repeat' (with_reducible first | assumption | apply And.intro | exact trivial | exact Eq.refl _ | exact fun _ _ => trivial | (intro i _; exact Eq.refl _))
  · have hnm : n = m := by
      have := bne_eq_false_iff_eq.1 h
      omega
    refine ⟨⟨⟨0, Nat.zero_le _, fun j hj => absurd hj (Nat.not_lt_zero j)⟩, ?_⟩, fun y ρ => ?_⟩
    · repeat' (with_reducible first | assumption | apply And.intro | exact trivial | exact Eq.refl _)
      exact rfl
    · obtain ⟨i, hi, hy⟩ := y
      simp only [addO_eq, Nat.zero_add, Int.toNat_natCast]
      refine ⟨fun h1 => ?_, fun h1 => ?_⟩
      · have h1 : i < n := by simpa using h1
        refine ⟨by omega, h1, by omega, by omega, fun h2 => ⟨eqR_diff h1 (by simpa using h2), ?_⟩, fun h2 => ⟨by omega, ⟨⟨i + 1, h1, fun j hj => ?_⟩, ?_⟩⟩⟩
        · repeat' (with_reducible first | assumption | apply And.intro | exact trivial | exact Eq.refl _ | exact fun _ _ => trivial | (intro i _; exact Eq.refl _))
        · have h2 : f i = g i := by simpa using h2
          rcases Nat.lt_succ_iff_lt_or_eq.1 hj with h3 | rfl
          · exact hy j h3
          · exact h2
        · repeat' (with_reducible first | assumption | apply And.intro | exact trivial | exact Eq.refl _)
          all_goals first | omega | (simp only []; omega)
      · have h1 : ¬ i < n := by simpa using h1
        refine ⟨eqR_yes hnm fun j hj => hy j (by omega), ?_⟩
        repeat' (with_reducible first | assumption | apply And.intro | exact trivial | exact Eq.refl _ | exact fun _ _ => trivial | (intro i _; exact Eq.refl _))
/-- What the executor leaves to be shown of roundelay/arena.Same$1, written out. -/
theorem alike_vc (h k : Int) (n m c d : Nat) (f g : Nat → Int) : (callN Try.prog ([] : List (Smry Try.prog XB)) (fun _ _ => false) 100 20 154 [.agg [.int false .u64 h, .sli 0 1 true 0 false n c], .agg [.int false .u64 k, .sli 1 1 true 0 false m d]] ⟨[(0, .ints 25 .u64 n c f), (1, .ints 25 .u64 m d g)], 100⟩ (.both (.both .nil (eqS n f g)) .nil) (fun v m' _ => outM (.c (.boo false (h == k && eqR n m f g))) [(0, .ints 25 .u64 n c f), (1, .ints 25 .u64 m d g)] v m')) = (
    ((h == k) = true → (((↑n : Int) != (↑m : Int)) = true → (h == k && eqR n m f g) = false ∧ (n = n ∧ c = c ∧ ∀ (i : Nat), i < n → f i = f i) ∧ (m = m ∧ d = d ∧ ∀ (i : Nat), i < m → g
    i = g i) ∧ True) ∧ (((↑n : Int) != (↑m : Int)) = false → (∃ (y : EqY n f g), (0 : Nat) = (0 : Nat) ∧ n = n ∧ c = c ∧ (0 : Nat) = (0 : Nat) ∧ m = m ∧ d = d ∧ (↑n : Int) = (↑n : Int)
    ∧ n = n ∧ c = c ∧ f = f ∧ m = m ∧ d = d ∧ g = g ∧ h = h ∧ (0 : Nat) = (0 : Nat) ∧ n = n ∧ c = c ∧ k = k ∧ (0 : Nat) = (0 : Nat) ∧ m = m ∧ d = d ∧ (↑y.val : Int) = (0 : Int) ∧ True)
    ∧ ∀ (y : EqY n f g) (ρ : Nat → Value), (decide ((↑y.val : Int) < (↑n : Int)) = true → ((0 : Int) ≤ (↑y.val : Int) ∧ (↑y.val : Int) < (↑n : Int)) ∧ addO true (0 : Nat) (↑y.val :
    Int).toNat < n ∧ ((0 : Int) ≤ (↑y.val : Int) ∧ (↑y.val : Int) < (↑m : Int)) ∧ addO true (0 : Nat) (↑y.val : Int).toNat < m ∧ ((f (addO true (0 : Nat) (↑y.val : Int).toNat) != g
    (addO true (0 : Nat) (↑y.val : Int).toNat)) = true → (h == k && eqR n m f g) = false ∧ (n = n ∧ c = c ∧ ∀ (i : Nat), i < n → f i = f i) ∧ (m = m ∧ d = d ∧ ∀ (i : Nat), i < m → g i =
    g i) ∧ True) ∧ ((f (addO true (0 : Nat) (↑y.val : Int).toNat) != g (addO true (0 : Nat) (↑y.val : Int).toNat)) = false → ((-9223372036854775808 : Int) ≤ (↑y.val : Int) + (1 : Int) ∧
    (↑y.val : Int) + (1 : Int) ≤ (9223372036854775807 : Int)) ∧ ∃ (y' : EqY n f g), n - y'.val < n - y.val ∧ (0 : Nat) = (0 : Nat) ∧ n = n ∧ c = c ∧ (0 : Nat) = (0 : Nat) ∧ m = m ∧ d =
    d ∧ (↑n : Int) = (↑n : Int) ∧ n = n ∧ c = c ∧ f = f ∧ m = m ∧ d = d ∧ g = g ∧ h = h ∧ (0 : Nat) = (0 : Nat) ∧ n = n ∧ c = c ∧ k = k ∧ (0 : Nat) = (0 : Nat) ∧ m = m ∧ d = d ∧
    (↑y'.val : Int) = (↑y.val : Int) + (1 : Int) ∧ True)) ∧ (decide ((↑y.val : Int) < (↑n : Int)) = false → (h == k && eqR n m f g) = true ∧ (n = n ∧ c = c ∧ ∀ (i : Nat), i < n → f i =
    f i) ∧ (m = m ∧ d = d ∧ ∀ (i : Nat), i < m → g i = g i) ∧ True))) ∧ ((h == k) = false → (h == k && eqR n m f g) = false ∧ (n = n ∧ c = c ∧ ∀ (i : Nat), i < n → f i = f i) ∧ (m = m ∧
    d = d ∧ ∀ (i : Nat), i < m → g i = g i) ∧ True)) := by
  kernel_rfl
theorem alike_run (h k : Int) (n m c d : Nat) (f g : Nat → Int) (hc : n ≤ 100000 ∧ m ≤ 100000) : Run (callN Try.prog ([] : List (Smry Try.prog XB)) (fun _ _ => false) 100 20 154 [.agg [.int false .u64 h, .sli 0 1 true 0 false n c], .agg [.int false .u64 k, .sli 1 1 true 0 false m d]] ⟨[(0, .ints 25 .u64 n c f), (1, .ints 25 .u64 m d g)], 100⟩ (.both (.both .nil (eqS n f g)) .nil) (fun v m' _ => outM (.c (.boo false (h == k && eqR n m f g))) [(0, .ints 25 .u64 n c f), (1, .ints 25 .u64 m d g)] v m')) := by
  constructor
  rw [alike_vc]
  obtain ⟨hn, hm⟩ := hc
  refine ⟨fun h => ?_, fun h => ?_⟩
  · rw [h]
    simp only [Bool.true_and]
    clear h
    refine ⟨fun h => ⟨eqR_no (by have := bne_iff_ne.1 h; omega), ?_⟩, fun h => ?_⟩
    · repeat' (with_reducible first | assumption | apply And.intro | exact trivial | exact Eq.refl _ | exact fun _ _ => trivial | (intro i _; exact Eq.refl _))
    · have hnm : n = m := by
        have := bne_eq_false_iff_eq.1 h
        omega
      refine ⟨⟨⟨0, Nat.zero_le _, fun j hj => absurd hj (Nat.not_lt_zero j)⟩, ?_⟩, fun y ρ => ?_⟩
      · repeat' (with_reducible first | assumption | apply And.intro | exact trivial | exact Eq.refl _)
        exact rfl
      · obtain ⟨i, hi, hy⟩ := y
        simp only [addO_eq, Nat.zero_add, Int.toNat_natCast]
        refine ⟨fun h1 => ?_, fun h1 => ?_⟩
        · have h1 : i < n := by simpa using h1
          refine ⟨by omega, h1, by omega, by omega, fun h2 => ⟨eqR_diff h1 (by simpa using h2), ?_⟩, fun h2 => ⟨by omega, ⟨⟨i + 1, h1, fun j hj => ?_⟩, ?_⟩⟩⟩
          · repeat' (with_reducible first | assumption | apply And.intro | exact trivial | exact Eq.refl _ | exact fun _ _ => trivial | (intro i _; exact Eq.refl _))
          · have h2 : f i = g i := by simpa using h2
            rcases Nat.lt_succ_iff_lt_or_eq.1 hj with h3 | rfl
            · exact hy j h3
            · exact h2
          · repeat' (with_reducible first | assumption | apply And.intro | exact trivial | exact Eq.refl _)
            all_goals first | omega | (simp only []; omega)
        · have h1 : ¬ i < n := by simpa using h1
          refine ⟨eqR_yes hnm fun j hj => hy j (by omega), ?_⟩
          repeat' (with_reducible first | assumption | apply And.intro | exact trivial | exact Eq.refl _ | exact fun _ _ => trivial | (intro i _; exact Eq.refl _))
  · rw [h]
    simp only [Bool.false_and]
    repeat' (with_reducible first | assumption | apply And.intro | exact trivial | exact Eq.refl _ | exact fun _ _ => trivial | (intro i _; exact Eq.refl _))
end Go.Proofs.Ytnfpkadepomjjaa
