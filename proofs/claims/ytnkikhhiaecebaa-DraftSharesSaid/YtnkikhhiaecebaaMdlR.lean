/- Which operations are right; maps with the same entries, rows with the same numbers: functions as summaries. -/
import Derived.Test.YtnkikhhiaecebaaMdlE
set_option linter.all false
namespace Go.Proofs.Ytnkikhhiaecebaa
open Go Go.RowKit
set_option maxRecDepth 1000000
set_option maxHeartbeats 0
theorem c15 {c : Int} (h0 : 0 ≤ c) (h1 : c < 15) : c = 0 ∨ c = 1 ∨ c = 2 ∨ c = 3 ∨ c = 4 ∨ c = 5 ∨ c = 6 ∨ c = 7 ∨ c = 8 ∨ c = 9 ∨ c = 10 ∨ c = 11 ∨ c = 12 ∨ c = 13 ∨ c = 14 := by omega
theorem tabK {c : Int} (h0 : 0 ≤ c) (h1 : c < 15) : [false, false, false, false, true, true, true, true, false, true, true, true, true, true, true].getD (addO true 0 c.toNat) false = usesK c := by
  rcases c15 h0 h1 with rfl | rfl | rfl | rfl | rfl | rfl | rfl | rfl | rfl | rfl | rfl | rfl | rfl | rfl | rfl <;> decide
theorem tabA {c : Int} (h0 : 0 ≤ c) (h1 : c < 15) : [false, true, false, false, false, true, false, true, false, false, true, false, false, false, false].getD (addO true 0 c.toNat) false = usesA c := by
  rcases c15 h0 h1 with rfl | rfl | rfl | rfl | rfl | rfl | rfl | rfl | rfl | rfl | rfl | rfl | rfl | rfl | rfl <;> decide
theorem tabB {c : Int} (h0 : 0 ≤ c) (h1 : c < 15) : [false, false, false, false, false, false, false, true, false, false, false, false, false, false, false].getD (addO true 0 c.toNat) false = usesB c := by
  rcases c15 h0 h1 with rfl | rfl | rfl | rfl | rfl | rfl | rfl | rfl | rfl | rfl | rfl | rfl | rfl | rfl | rfl <;> decide
theorem notT {b : Bool} (h : (!b) = true) : b = false := by cases b <;> simp_all
theorem notF {b : Bool} (h : (!b) = false) : b = true := by cases b <;> simp_all
def rightOuts (c k a b : Int) : List (Out XN) := [Out.one (.c (.boo false (decide (RightO c k a b))))]
/-- What the executor leaves to be shown of roundelay/ops.Right, written out. -/
theorem right_vc (c k a b : Int) : (callN Try.prog ([] : List (Smry Try.prog XN)) (fun _ _ => false) 100 20 107 [.agg [.int false .i64 c, .int false .i64 k, .int false .i64 a, .int false .i64 b]] ⟨[], 100⟩ (bN 14) (fun v m _ => nthO (rightOuts c k a b) ((fun _ => 0) v) v m)) = (
    (decide (c < (0 : Int)) = true → ∃ (z : Un), True ∧ decide (RightO c k a b) = false ∧ True) ∧ (decide (c < (0 : Int)) = false → (decide (c ≥ (15 : Int)) = true → ∃ (z : Un), True ∧
    decide (RightO c k a b) = false ∧ True) ∧ (decide (c ≥ (15 : Int)) = false → (decide (k < (0 : Int)) = true → ∃ (z : Un), True ∧ decide (RightO c k a b) = false ∧ True) ∧ (decide (k
    < (0 : Int)) = false → (decide (k > (255 : Int)) = true → ∃ (z : Un), True ∧ decide (RightO c k a b) = false ∧ True) ∧ (decide (k > (255 : Int)) = false → (decide (k > (0 : Int)) =
    true → ((0 : Int) ≤ c ∧ c < (15 : Int)) ∧ addO true (0 : Nat) c.toNat < (15 : Nat) ∧ ((![false, false, false, false, true, true, true, true, false, true, true, true, true, true,
    true].getD (addO true (0 : Nat) c.toNat) false) = true → ∃ (z : Un), True ∧ decide (RightO c k a b) = false ∧ True) ∧ ((![false, false, false, false, true, true, true, true, false,
    true, true, true, true, true, true].getD (addO true (0 : Nat) c.toNat) false) = false → (decide (a < (0 : Int)) = true → ∃ (z : Un), True ∧ decide (RightO c k a b) = false ∧ True) ∧
    (decide (a < (0 : Int)) = false → (decide (a > (1023 : Int)) = true → ∃ (z : Un), True ∧ decide (RightO c k a b) = false ∧ True) ∧ (decide (a > (1023 : Int)) = false → (decide (a >
    (0 : Int)) = true → ((0 : Int) ≤ c ∧ c < (15 : Int)) ∧ addO true (0 : Nat) c.toNat < (15 : Nat) ∧ ((![false, true, false, false, false, true, false, true, false, false, true, false,
    false, false, false].getD (addO true (0 : Nat) c.toNat) false) = true → ∃ (z : Un), True ∧ decide (RightO c k a b) = false ∧ True) ∧ ((![false, true, false, false, false, true,
    false, true, false, false, true, false, false, false, false].getD (addO true (0 : Nat) c.toNat) false) = false → (decide (b < (0 : Int)) = true → ∃ (z : Un), True ∧ decide (RightO c
    k a b) = false ∧ True) ∧ (decide (b < (0 : Int)) = false → (decide (b > (1023 : Int)) = true → ∃ (z : Un), True ∧ decide (RightO c k a b) = false ∧ True) ∧ (decide (b > (1023 :
    Int)) = false → (decide (b > (0 : Int)) = true → ((0 : Int) ≤ c ∧ c < (15 : Int)) ∧ addO true (0 : Nat) c.toNat < (15 : Nat) ∧ ((![false, false, false, false, false, false, false,
    true, false, false, false, false, false, false, false].getD (addO true (0 : Nat) c.toNat) false) = true → ∃ (z : Un), True ∧ decide (RightO c k a b) = false ∧ True) ∧ ((![false,
    false, false, false, false, false, false, true, false, false, false, false, false, false, false].getD (addO true (0 : Nat) c.toNat) false) = false → ∃ (z : Un), True ∧ decide
    (RightO c k a b) = true ∧ True)) ∧ (decide (b > (0 : Int)) = false → ∃ (z : Un), True ∧ decide (RightO c k a b) = true ∧ True))))) ∧ (decide (a > (0 : Int)) = false → (decide (b <
    (0 : Int)) = true → ∃ (z : Un), True ∧ decide (RightO c k a b) = false ∧ True) ∧ (decide (b < (0 : Int)) = false → (decide (b > (1023 : Int)) = true → ∃ (z : Un), True ∧ decide
    (RightO c k a b) = false ∧ True) ∧ (decide (b > (1023 : Int)) = false → (decide (b > (0 : Int)) = true → ((0 : Int) ≤ c ∧ c < (15 : Int)) ∧ addO true (0 : Nat) c.toNat < (15 : Nat)
    ∧ ((![false, false, false, false, false, false, false, true, false, false, false, false, false, false, false].getD (addO true (0 : Nat) c.toNat) false) = true → ∃ (z : Un), True ∧
    decide (RightO c k a b) = false ∧ True) ∧ ((![false, false, false, false, false, false, false, true, false, false, false, false, false, false, false].getD (addO true (0 : Nat)
    c.toNat) false) = false → ∃ (z : Un), True ∧ decide (RightO c k a b) = true ∧ True)) ∧ (decide (b > (0 : Int)) = false → ∃ (z : Un), True ∧ decide (RightO c k a b) = true ∧
    True)))))))) ∧ (decide (k > (0 : Int)) = false → (decide (a < (0 : Int)) = true → ∃ (z : Un), True ∧ decide (RightO c k a b) = false ∧ True) ∧ (decide (a < (0 : Int)) = false →
    (decide (a > (1023 : Int)) = true → ∃ (z : Un), True ∧ decide (RightO c k a b) = false ∧ True) ∧ (decide (a > (1023 : Int)) = false → (decide (a > (0 : Int)) = true → ((0 : Int) ≤ c
    ∧ c < (15 : Int)) ∧ addO true (0 : Nat) c.toNat < (15 : Nat) ∧ ((![false, true, false, false, false, true, false, true, false, false, true, false, false, false, false].getD (addO
    true (0 : Nat) c.toNat) false) = true → ∃ (z : Un), True ∧ decide (RightO c k a b) = false ∧ True) ∧ ((![false, true, false, false, false, true, false, true, false, false, true,
    false, false, false, false].getD (addO true (0 : Nat) c.toNat) false) = false → (decide (b < (0 : Int)) = true → ∃ (z : Un), True ∧ decide (RightO c k a b) = false ∧ True) ∧ (decide
    (b < (0 : Int)) = false → (decide (b > (1023 : Int)) = true → ∃ (z : Un), True ∧ decide (RightO c k a b) = false ∧ True) ∧ (decide (b > (1023 : Int)) = false → (decide (b > (0 :
    Int)) = true → ((0 : Int) ≤ c ∧ c < (15 : Int)) ∧ addO true (0 : Nat) c.toNat < (15 : Nat) ∧ ((![false, false, false, false, false, false, false, true, false, false, false, false,
    false, false, false].getD (addO true (0 : Nat) c.toNat) false) = true → ∃ (z : Un), True ∧ decide (RightO c k a b) = false ∧ True) ∧ ((![false, false, false, false, false, false,
    false, true, false, false, false, false, false, false, false].getD (addO true (0 : Nat) c.toNat) false) = false → ∃ (z : Un), True ∧ decide (RightO c k a b) = true ∧ True)) ∧
    (decide (b > (0 : Int)) = false → ∃ (z : Un), True ∧ decide (RightO c k a b) = true ∧ True))))) ∧ (decide (a > (0 : Int)) = false → (decide (b < (0 : Int)) = true → ∃ (z : Un), True
    ∧ decide (RightO c k a b) = false ∧ True) ∧ (decide (b < (0 : Int)) = false → (decide (b > (1023 : Int)) = true → ∃ (z : Un), True ∧ decide (RightO c k a b) = false ∧ True) ∧
    (decide (b > (1023 : Int)) = false → (decide (b > (0 : Int)) = true → ((0 : Int) ≤ c ∧ c < (15 : Int)) ∧ addO true (0 : Nat) c.toNat < (15 : Nat) ∧ ((![false, false, false, false,
    false, false, false, true, false, false, false, false, false, false, false].getD (addO true (0 : Nat) c.toNat) false) = true → ∃ (z : Un), True ∧ decide (RightO c k a b) = false ∧
    True) ∧ ((![false, false, false, false, false, false, false, true, false, false, false, false, false, false, false].getD (addO true (0 : Nat) c.toNat) false) = false → ∃ (z : Un),
    True ∧ decide (RightO c k a b) = true ∧ True)) ∧ (decide (b > (0 : Int)) = false → ∃ (z : Un), True ∧ decide (RightO c k a b) = true ∧ True)))))))))))) := by
  kernel_rfl
theorem right_run (c k a b : Int) (hc : True) : Run (callN Try.prog ([] : List (Smry Try.prog XN)) (fun _ _ => false) 100 20 107 [.agg [.int false .i64 c, .int false .i64 k, .int false .i64 a, .int false .i64 b]] ⟨[], 100⟩ (bN 14) (fun v m _ => nthO (rightOuts c k a b) ((fun _ => 0) v) v m)) := by
  constructor
  rw [right_vc]
  repeat' first
    | with_reducible apply And.intro
    | with_reducible exact trivial
    | with_reducible exact fun _ h => h
    | with_reducible exact Eq.refl _
    | (intro (K : KO XN); simp only [and_imp]; intros; repeat' first | with_reducible apply And.intro | with_reducible exact trivial | with_reducible exact Eq.refl _ | with_reducible assumption)
    | (with_reducible refine fun (h : decide _ = true) => ?_; replace h := of_decide_eq_true h)
    | (with_reducible refine fun (h : decide _ = false) => ?_; replace h := of_decide_eq_false h)
    | intro _

  all_goals first
    | omega
    | (rw [addO_eq]; omega)
    | (refine ⟨.mk, trivial, decide_eq_false fun r => ?_, trivial⟩
       have h0 := r.c0; have h1 := r.c1; have h2 := r.k0; have h3 := r.k1; have h4 := r.a0; have h5 := r.a1; have h6 := r.b0; have h7 := r.b1
       first
         | omega
         | (rename_i hn
            first
              | (have e := notT hn; rw [tabK h0 (by omega)] at e; have h := r.ku (by omega); rw [e] at h; cases h)
              | (have e := notT hn; rw [tabA h0 (by omega)] at e; have h := r.au (by omega); rw [e] at h; cases h)
              | (have e := notT hn; rw [tabB h0 (by omega)] at e; have h := r.bu (by omega); rw [e] at h; cases h)))
    | (have h0 : 0 ≤ c := by omega
       have h1 : c < 15 := by omega
       refine ⟨.mk, trivial, decide_eq_true ⟨by omega, by omega, by omega, by omega, fun hk => ?_, by omega, by omega, fun ha => ?_, by omega, by omega, fun hb => ?_⟩, trivial⟩
       · first | omega | (rw [← tabK h0 h1]; exact notF (by assumption))
       · first | omega | (rw [← tabA h0 h1]; exact notF (by assumption))
       · first | omega | (rw [← tabB h0 h1]; exact notF (by assumption)))
def rightS : Smry Try.prog XN := outS 107 (fun args => match args with
  | [.agg [.int _ .i64 c _, .int _ .i64 k _, .int _ .i64 a _, .int _ .i64 b _]] => some ([.agg [.int false .i64 c, .int false .i64 k, .int false .i64 a, .int false .i64 b]], True, rightOuts c k a b)
  | _ => none)
  ⟨(by intro args na c os h ν; split at h <;> first | (cases h; rfl) | cases h), (by intro args na c os h hc; split at h <;> first | (cases h; exact ⟨([] : List (Smry Try.prog XN)), _, _, _, _, _, right_run _ _ _ _ hc⟩) | cases h)⟩
def goodE (k : List (Int × Value)) (x : Int × Value) : Bool := (look k x.1).isSome && decide (lookI k x.1 = numV x.2)
/-- Maps with the same entries? -/
def mapsB (l k : List (Int × Value)) : Bool := Nat.beq l.length k.length && l.all (goodE k)
def rowsB (n : Nat) (f : Nat → Int) (m : Nat) (g : Nat → Int) : Bool := Nat.beq n m && (List.range n).all fun i => decide (f i = g i)
theorem mapsB_no {l k : List (Int × Value)} {x : Int × Value} (h : x ∈ l) (hg : goodE k x = false) : mapsB l k = false := by
  unfold mapsB
  have : l.all (goodE k) = false := by
    rw [List.all_eq_false]
    exact ⟨x, h, by rw [hg]; decide⟩
  rw [this, Bool.and_false]
theorem rowsB_no {n m : Nat} {f g : Nat → Int} {i : Nat} (h : i < n) (hg : f i ≠ g i) : rowsB n f m g = false := by
  unfold rowsB
  have : ((List.range n).all fun i => decide (f i = g i)) = false := by
    rw [List.all_eq_false]
    exact ⟨i, List.mem_range.2 h, by rw [decide_eq_false hg]; decide⟩
  rw [this, Bool.and_false]
theorem beqN_eq {n m : Nat} : Nat.beq n m = decide (n = m) := by
  by_cases h : n = m
  · rw [decide_eq_true h, h]; exact Nat.beq_refl m
  · rw [decide_eq_false h]
    cases hb : Nat.beq n m with
    | false => rfl
    | true => exact absurd (Nat.eq_of_beq_eq_true hb) h
theorem neI {n m : Nat} (h : ((n : Int) != (m : Int)) = true) : n ≠ m := fun e => by rw [e] at h; simp at h
theorem eqI2 {n m : Nat} (h : ((n : Int) != (m : Int)) = false) : n = m := by
  have := bne_eq_false_iff_eq.1 h
  omega
abbrev DoneY (l k : List (Int × Value)) : Type := {dn : List (Int × Value) // dn.length ≤ l.length ∧ dn.all (goodE k) = true}
def useN : List Nat := (List.range 1500).map (· + 2)
def meS (l k : List (Int × Value)) : Scr XN := .both .nil (.inv (liveL [1, 4, 5, 6, 7, 8, 15]) useN (DoneY l k) (fun n y => ([(15, .c (.ptr n 0))], [(n, .rng 0 l y.1 none)])) (fun y => l.length - y.1.length) fun _ => .both (.ghost 8 unrngG .nil) (.both (.ghost 8 unrngG .nil) .nil))
abbrev EqY (n : Nat) (f g : Nat → Int) : Type := {i : Nat // i ≤ n ∧ ∀ j, j < i → f j = g j}
def seS (n : Nat) (f g : Nat → Int) : Scr XN := .both .nil (.inv (liveL [0, 1, 4, 5, 12, 13]) [] (EqY n f g) (fun _ y => ([(13, .c (.int false .i64 (y.1 : Int)))], [])) (fun y => n - y.1) fun _ => bN 3)
/-- What the executor leaves to be shown of maps.Equal[map[int]int,map[int]int,int,int], written out. -/
theorem mequal_vc (l k : List (Int × Value)) : (callN Try.prog ([] : List (Smry Try.prog XN)) (fun _ _ => false) 100 20 146 [.c (.map 0), .c (.map 1)] ⟨[(0, .mp false l), (1, .mp false k)], 100⟩ (meS l k) (fun v m _ => outM (.c (.boo false (mapsB l k))) [(0, .mp false l), (1, .mp false k)] v m)) = (
    (((↑l.length : Int) != (↑k.length : Int)) = true → mapsB l k = false ∧ l = l ∧ k = k ∧ True) ∧ (((↑l.length : Int) != (↑k.length : Int)) = false → (∃ (y : DoneY l k), k = k ∧ (l = l
    ∧ y.val = []) ∧ True) ∧ ∀ (y : DoneY l k) (ρ : Nat → Value), (∀ (y : Int × Value), List.Mem y l → ∃ (n : Int), y.snd = Value.int IntKind.i64 n) ∧ ((doneOf y.val none).Perm l → mapsB
    l k = true ∧ l = l ∧ k = k ∧ True) ∧ ∀ (x n : Int), List.Mem (x, Value.int IntKind.i64 n) l → (doneOf y.val none).length < l.length → (∀ (y : Int × Value), List.Mem y k → ∃ (n :
    Int), y.snd = Value.int IntKind.i64 n) ∧ ((!(look k x).isSome) = true → mapsB l k = false ∧ l = l ∧ k = k ∧ True) ∧ ((!(look k x).isSome) = false → ((n != lookI k x) = true → mapsB
    l k = false ∧ l = l ∧ k = k ∧ True) ∧ ((n != lookI k x) = false → ∃ (y' : DoneY l k), l.length - y'.val.length < l.length - y.val.length ∧ k = k ∧ (l = l ∧ y'.val = doneOf (doneOf
    y.val none) (some (x, Value.int IntKind.i64 n))) ∧ True)))) := by
  kernel_rfl
theorem mequal_run (l k : List (Int × Value)) (hc : AllInt .i64 l ∧ AllInt .i64 k) : Run (callN Try.prog ([] : List (Smry Try.prog XN)) (fun _ _ => false) 100 20 146 [.c (.map 0), .c (.map 1)] ⟨[(0, .mp false l), (1, .mp false k)], 100⟩ (meS l k) (fun v m _ => outM (.c (.boo false (mapsB l k))) [(0, .mp false l), (1, .mp false k)] v m)) := by
  constructor
  rw [mequal_vc]
  obtain ⟨hl, hk⟩ := hc
  refine ⟨fun h => ⟨?_, rfl, rfl, trivial⟩, fun h => ⟨⟨⟨[], Nat.zero_le _, rfl⟩, rfl, ⟨rfl, rfl⟩, trivial⟩, fun y ρ => ⟨hl, fun hp => ⟨?_, rfl, rfl, trivial⟩, fun x n hm hlt => ⟨hk, fun h1 => ⟨?_, rfl, rfl, trivial⟩, fun h1 => ⟨fun h2 => ⟨?_, rfl, rfl, trivial⟩, fun h2 => ⟨⟨y.1 ++ [(x, .int .i64 n)], ?_, ?_⟩, ?_, rfl, ⟨rfl, rfl⟩, trivial⟩⟩⟩⟩⟩⟩
  · unfold mapsB
    rw [beqN_eq, decide_eq_false (neI h)]; rfl
  · unfold mapsB
    rw [beqN_eq, decide_eq_true (eqI2 h), Bool.true_and, List.all_eq_true]
    intro e he
    exact List.all_eq_true.1 y.2.2 e (hp.symm.subset he)
  · refine mapsB_no hm ?_
    have : (look k x).isSome = false := by cases hs : (look k x).isSome <;> simp_all
    unfold goodE
    rw [this]; rfl
  · refine mapsB_no hm ?_
    unfold goodE
    have : ¬ lookI k x = numV (.int .i64 n) := fun e => by
      have e2 : lookI k x = n := e
      rw [e2] at h2; simp at h2
    rw [decide_eq_false this, Bool.and_false]
  · have hlt' : y.1.length < l.length := hlt
    rw [List.length_append]; exact hlt'
  · rw [List.all_append, y.2.2, Bool.true_and]
    have h3 : (look k x).isSome = true := by cases hs : (look k x).isSome <;> simp_all
    have h4 : lookI k x = n := (bne_eq_false_iff_eq.1 h2).symm
    have : goodE k (x, .int .i64 n) = true := by
      unfold goodE
      rw [h3, decide_eq_true (show lookI k x = numV (.int .i64 n) from h4)]; rfl
    rw [List.all_cons, this]; rfl
  · have hlt' : y.1.length < l.length := hlt
    show l.length - (y.1 ++ [(x, Value.int .i64 n)]).length < _
    rw [List.length_append]
    simp only [List.length_singleton]
    omega
/-- What the executor leaves to be shown of slices.Equal[[]int,int], written out. -/
theorem sequal_vc (n c : Nat) (f : Nat → Int) (n2 c2 : Nat) (g : Nat → Int) : (callN Try.prog ([] : List (Smry Try.prog XN)) (fun _ _ => false) 100 20 145 [.c (.sli 0 1 true 0 false n c), .c (.sli 1 1 true 0 false n2 c2)] ⟨[(0, .ints 3 .i64 n c f), (1, .ints 3 .i64 n2 c2 g)], 100⟩ (seS n f g) (fun v m _ => outM (.c (.boo false (rowsB n f n2 g))) [(0, .ints 3 .i64 n c f), (1, .ints 3 .i64 n2 c2 g)] v m)) = (
    (((↑n : Int) != (↑n2 : Int)) = true → rowsB n f n2 g = false ∧ (n = n ∧ c = c ∧ ∀ (i : Nat), i < n → f i = f i) ∧ (n2 = n2 ∧ c2 = c2 ∧ ∀ (i : Nat), i < n2 → g i = g i) ∧ True) ∧
    (((↑n : Int) != (↑n2 : Int)) = false → (∃ (y : EqY n f g), (0 : Nat) = (0 : Nat) ∧ n = n ∧ c = c ∧ (0 : Nat) = (0 : Nat) ∧ n2 = n2 ∧ c2 = c2 ∧ (↑n : Int) = (↑n : Int) ∧ n = n ∧ c =
    c ∧ f = f ∧ n2 = n2 ∧ c2 = c2 ∧ g = g ∧ (↑y.val : Int) = (0 : Int) ∧ True) ∧ ∀ (y : EqY n f g) (ρ : Nat → Value), (decide ((↑y.val : Int) < (↑n : Int)) = true → ((0 : Int) ≤ (↑y.val
    : Int) ∧ (↑y.val : Int) < (↑n : Int)) ∧ addO true (0 : Nat) (↑y.val : Int).toNat < n ∧ ((0 : Int) ≤ (↑y.val : Int) ∧ (↑y.val : Int) < (↑n2 : Int)) ∧ addO true (0 : Nat) (↑y.val :
    Int).toNat < n2 ∧ ((f (addO true (0 : Nat) (↑y.val : Int).toNat) != g (addO true (0 : Nat) (↑y.val : Int).toNat)) = true → rowsB n f n2 g = false ∧ (n = n ∧ c = c ∧ ∀ (i : Nat), i <
    n → f i = f i) ∧ (n2 = n2 ∧ c2 = c2 ∧ ∀ (i : Nat), i < n2 → g i = g i) ∧ True) ∧ ((f (addO true (0 : Nat) (↑y.val : Int).toNat) != g (addO true (0 : Nat) (↑y.val : Int).toNat)) =
    false → ((-9223372036854775808 : Int) ≤ (↑y.val : Int) + (1 : Int) ∧ (↑y.val : Int) + (1 : Int) ≤ (9223372036854775807 : Int)) ∧ ∃ (y' : EqY n f g), n - y'.val < n - y.val ∧ (0 :
    Nat) = (0 : Nat) ∧ n = n ∧ c = c ∧ (0 : Nat) = (0 : Nat) ∧ n2 = n2 ∧ c2 = c2 ∧ (↑n : Int) = (↑n : Int) ∧ n = n ∧ c = c ∧ f = f ∧ n2 = n2 ∧ c2 = c2 ∧ g = g ∧ (↑y'.val : Int) =
    (↑y.val : Int) + (1 : Int) ∧ True)) ∧ (decide ((↑y.val : Int) < (↑n : Int)) = false → rowsB n f n2 g = true ∧ (n = n ∧ c = c ∧ ∀ (i : Nat), i < n → f i = f i) ∧ (n2 = n2 ∧ c2 = c2 ∧
    ∀ (i : Nat), i < n2 → g i = g i) ∧ True))) := by
  kernel_rfl
theorem sequal_run (n c : Nat) (f : Nat → Int) (n2 c2 : Nat) (g : Nat → Int) (hc : n ≤ 1000000) : Run (callN Try.prog ([] : List (Smry Try.prog XN)) (fun _ _ => false) 100 20 145 [.c (.sli 0 1 true 0 false n c), .c (.sli 1 1 true 0 false n2 c2)] ⟨[(0, .ints 3 .i64 n c f), (1, .ints 3 .i64 n2 c2 g)], 100⟩ (seS n f g) (fun v m _ => outM (.c (.boo false (rowsB n f n2 g))) [(0, .ints 3 .i64 n c f), (1, .ints 3 .i64 n2 c2 g)] v m)) := by
  constructor
  rw [sequal_vc]
  refine ⟨fun h => ⟨?_, ⟨rfl, rfl, fun _ _ => rfl⟩, ⟨rfl, rfl, fun _ _ => rfl⟩, trivial⟩, fun h => ⟨⟨⟨0, Nat.zero_le _, fun j hj => absurd hj (Nat.not_lt_zero j)⟩, ?_⟩, fun y ρ => ⟨fun hlt => ?_, fun hge => ⟨?_, ⟨rfl, rfl, fun _ _ => rfl⟩, ⟨rfl, rfl, fun _ _ => rfl⟩, trivial⟩⟩⟩⟩
  · unfold rowsB
    rw [beqN_eq, decide_eq_false (neI h)]; rfl
  · exact ⟨rfl, rfl, rfl, rfl, rfl, rfl, rfl, rfl, rfl, rfl, rfl, rfl, rfl, rfl, trivial⟩
  · have e := eqI2 h
    have hlt' : y.1 < n := by have := of_decide_eq_true hlt; omega
    simp only [addO_eq, Int.toNat_natCast, Nat.zero_add]
    refine ⟨⟨by omega, by omega⟩, hlt', ⟨by omega, by omega⟩, by omega, fun h1 => ⟨?_, by simp, by simp, trivial⟩, fun h1 => ⟨⟨by omega, by omega⟩, ⟨y.1 + 1, by omega, fun j hj => ?_⟩, ?_⟩⟩
    · exact rowsB_no hlt' (bne_iff_ne.1 h1)
    · rcases Nat.lt_or_ge j y.1 with hjy | hjy
      · exact y.2.2 j hjy
      · have : j = y.1 := by omega
        rw [this]
        exact bne_eq_false_iff_eq.1 h1
    · repeat' first
        | with_reducible apply And.intro
        | with_reducible exact trivial
        | with_reducible exact Eq.refl _
        | (show n - (y.1 + 1) < n - y.1; omega)
        | (show ((y.1 + 1 : Nat) : Int) = (y.1 : Int) + 1; omega)
  · have hge' : y.1 = n := by
      have := of_decide_eq_false hge
      have := y.2.1
      omega
    unfold rowsB
    rw [beqN_eq, decide_eq_true (eqI2 h), Bool.true_and, List.all_eq_true]
    intro i hi
    exact decide_eq_true (y.2.2 i (by rw [hge']; exact List.mem_range.1 hi))
/-- What the executor leaves to be shown of slices.Equal[[]int,int], written out. -/
theorem sequal0_vc (n2 c2 : Nat) (g : Nat → Int) : (callN Try.prog ([] : List (Smry Try.prog XN)) (fun _ _ => false) 100 20 145 [.c .nls, .c (.sli 0 1 true 0 false n2 c2)] ⟨[(0, .ints 3 .i64 n2 c2 g)], 100⟩ (bN 2) (fun v m _ => outM (.c (.boo false (Nat.beq 0 n2))) [(0, .ints 3 .i64 n2 c2 g)] v m)) = (
    (((0 : Int) != (↑n2 : Int)) = true → Nat.beq (OfNat.ofNat (0 : Nat)) n2 = false ∧ (n2 = n2 ∧ c2 = c2 ∧ ∀ (i : Nat), i < n2 → g i = g i) ∧ True) ∧ (((0 : Int) != (↑n2 : Int)) = false
    → Nat.beq (OfNat.ofNat (0 : Nat)) n2 = true ∧ (n2 = n2 ∧ c2 = c2 ∧ ∀ (i : Nat), i < n2 → g i = g i) ∧ True)) := by
  kernel_rfl
theorem sequal0_run (n2 c2 : Nat) (g : Nat → Int) (hc : True) : Run (callN Try.prog ([] : List (Smry Try.prog XN)) (fun _ _ => false) 100 20 145 [.c .nls, .c (.sli 0 1 true 0 false n2 c2)] ⟨[(0, .ints 3 .i64 n2 c2 g)], 100⟩ (bN 2) (fun v m _ => outM (.c (.boo false (Nat.beq 0 n2))) [(0, .ints 3 .i64 n2 c2 g)] v m)) := by
  constructor
  rw [sequal0_vc]
  refine ⟨fun h => ⟨?_, ⟨rfl, rfl, fun _ _ => rfl⟩, trivial⟩, fun h => ⟨?_, ⟨rfl, rfl, fun _ _ => rfl⟩, trivial⟩⟩
  · exact beqN_eq.trans (decide_eq_false (neI (n := 0) h))
  · exact beqN_eq.trans (decide_eq_true (eqI2 (n := 0) h))
/-- What the executor leaves to be shown of slices.Equal[[]int,int], written out. -/
theorem sequal1_vc (n c : Nat) (f : Nat → Int) : (callN Try.prog ([] : List (Smry Try.prog XN)) (fun _ _ => false) 100 20 145 [.c (.sli 0 1 true 0 false n c), .c .nls] ⟨[(0, .ints 3 .i64 n c f)], 100⟩ (.both .nil (.f .nil)) (fun v m _ => outM (.c (.boo false (Nat.beq n 0))) [(0, .ints 3 .i64 n c f)] v m)) = (
    (((↑n : Int) != (0 : Int)) = true → n.beq (OfNat.ofNat (0 : Nat)) = false ∧ (n = n ∧ c = c ∧ ∀ (i : Nat), i < n → f i = f i) ∧ True) ∧ (((↑n : Int) != (0 : Int)) = false → decide
    ((0 : Int) < (↑n : Int)) = false ∧ n.beq (OfNat.ofNat (0 : Nat)) = true ∧ (n = n ∧ c = c ∧ ∀ (i : Nat), i < n → f i = f i) ∧ True)) := by
  kernel_rfl
theorem sequal1_run (n c : Nat) (f : Nat → Int) (hc : True) : Run (callN Try.prog ([] : List (Smry Try.prog XN)) (fun _ _ => false) 100 20 145 [.c (.sli 0 1 true 0 false n c), .c .nls] ⟨[(0, .ints 3 .i64 n c f)], 100⟩ (.both .nil (.f .nil)) (fun v m _ => outM (.c (.boo false (Nat.beq n 0))) [(0, .ints 3 .i64 n c f)] v m)) := by
  constructor
  rw [sequal1_vc]
  refine ⟨fun h => ⟨?_, ⟨rfl, rfl, fun _ _ => rfl⟩, trivial⟩, fun h => ⟨?_, ?_, ⟨rfl, rfl, fun _ _ => rfl⟩, trivial⟩⟩
  · exact beqN_eq.trans (decide_eq_false (neI (m := 0) h))
  · have := eqI2 (m := 0) h
    exact decide_eq_false (by omega)
  · exact beqN_eq.trans (decide_eq_true (eqI2 (m := 0) h))
/-- What the executor leaves to be shown of slices.Equal[[]int,int], written out. -/
theorem sequal2_vc  : (callN Try.prog ([] : List (Smry Try.prog XN)) (fun _ _ => false) 100 20 145 [.c .nls, .c .nls] ⟨[], 100⟩ (.nil) (fun v m _ => outM (.c (.boo false true)) [] v m)) = (
    true = true ∧ True) := by
  kernel_rfl
theorem sequal2_run  (hc : True) : Run (callN Try.prog ([] : List (Smry Try.prog XN)) (fun _ _ => false) 100 20 145 [.c .nls, .c .nls] ⟨[], 100⟩ (.nil) (fun v m _ => outM (.c (.boo false true)) [] v m)) := by
  constructor
  rw [sequal2_vc]
  exact ⟨rfl, trivial⟩
/-- Are two maps the same? -/
def mequalS : Smry Try.prog XN where
  g := 146
  run := fun args m K => match args with
    | [.c (.map a), .c (.map b)] => match m.hp.get a with
      | some (.mp false l) => match (m.hp.del a).get b with
        | some (.mp false k) => (AllInt .i64 l ∧ AllInt .i64 k) ∧ K (.c (.boo false (mapsB l k))) m
        | _ => Stuck 814
      | _ => Stuck 815
    | _ => Stuck 816
  ok := fun args m K hr => by
    split at hr <;> try exact hr.elim
    rename_i a b
    split at hr <;> try exact hr.elim
    rename_i l hl
    split at hr <;> try exact hr.elim
    rename_i k hk
    obtain ⟨hc, hr⟩ := hr
    intro ν w R w0 Hs HK
    have H1 := Hs
    rw [SH.den_get ν hl, Assn.mul_assoc, SH.den_get ν hk, Assn.mul_assoc] at H1
    refine (read_two (mequal_run l k hc) rfl rfl rfl (ν := ν) (b0 := ν a) (b1 := ν b) rfl H1 HK).mono ?_
    rintro e w' ⟨he, hs, hk'⟩
    refine ⟨_, m, ν, hr, Agree.refl _ _, Nat.le_refl _, he, ?_, hk'⟩
    rw [SH.den_get ν hl, Assn.mul_assoc, SH.den_get ν hk, Assn.mul_assoc]
    exact hs
/-- Are two rows the same? -/
def sequalS : Smry Try.prog XN where
  g := 145
  run := fun args m K => match args with
    | [.c .nls, .c .nls] => K (.c (.boo false true)) m
    | [.c (.sli a 1 true 0 false n c), .c .nls] => match m.hp.get a with
      | some (.ints t .i64 n' c' f) => (t = 3 ∧ n' = n ∧ c' = c) ∧ K (.c (.boo false (Nat.beq n 0))) m
      | _ => Stuck 817
    | [.c .nls, .c (.sli b 1 true 0 false n c)] => match m.hp.get b with
      | some (.ints t .i64 n' c' f) => (t = 3 ∧ n' = n ∧ c' = c) ∧ K (.c (.boo false (Nat.beq 0 n))) m
      | _ => Stuck 818
    | [.c (.sli a 1 true 0 false n c), .c (.sli b 1 true 0 false n2 c2)] => match m.hp.get a with
      | some (.ints t .i64 n' c' f) => match (m.hp.del a).get b with
        | some (.ints t2 .i64 n2' c2' g) => (n ≤ 1000000 ∧ t = 3 ∧ n' = n ∧ c' = c ∧ t2 = 3 ∧ n2' = n2 ∧ c2' = c2) ∧ K (.c (.boo false (rowsB n f n2 g))) m
        | _ => Stuck 819
      | _ => Stuck 820
    | _ => Stuck 821
  ok := fun args m K hr => by
    split at hr <;> try exact hr.elim
    · intro ν w R w0 Hs HK
      have H1 : Sat w ((⟨[], 100⟩ : Mem XN).hp.den ν * (m.hp.den ν * R)) := by
        simp only [SH.den]
        rw [Assn.one_mul]
        exact Hs
      refine (callN_ok namesOk mixed _ _ _ _ _ _ ⟨[], 100⟩ _ _ (sequal2_run trivial).out ν w _ w0 H1 HK).mono ?_
      rintro e w' ⟨v, m', s', ξ, hv, _, _, he, hs, hk⟩
      obtain ⟨κ, _, hv2, hs⟩ := outM_sound hv hs
      refine ⟨_, m, ν, hr, Agree.refl _ _, Nat.le_refl _, by rw [he, hv2]; rfl, ?_, hk⟩
      simp only [SH.den] at hs
      rwa [Assn.one_mul] at hs
    · rename_i a n c
      split at hr <;> try exact hr.elim
      rename_i t n' c' f hf
      obtain ⟨⟨rfl, rfl, rfl⟩, hr⟩ := hr
      intro ν w R w0 Hs HK
      have H1 := Hs
      rw [SH.den_get ν hf, Assn.mul_assoc] at H1
      refine (read_one (sequal1_run n' c' f trivial) rfl rfl (ν := ν) (b0 := ν a) rfl H1 HK).mono ?_
      rintro e w' ⟨he, hs, hk'⟩
      refine ⟨_, m, ν, hr, Agree.refl _ _, Nat.le_refl _, he, ?_, hk'⟩
      rw [SH.den_get ν hf, Assn.mul_assoc]
      exact hs
    · rename_i a n c
      split at hr <;> try exact hr.elim
      rename_i t n' c' f hf
      obtain ⟨⟨rfl, rfl, rfl⟩, hr⟩ := hr
      intro ν w R w0 Hs HK
      have H1 := Hs
      rw [SH.den_get ν hf, Assn.mul_assoc] at H1
      refine (read_one (sequal0_run n' c' f trivial) rfl rfl (ν := ν) (b0 := ν a) rfl H1 HK).mono ?_
      rintro e w' ⟨he, hs, hk'⟩
      refine ⟨_, m, ν, hr, Agree.refl _ _, Nat.le_refl _, he, ?_, hk'⟩
      rw [SH.den_get ν hf, Assn.mul_assoc]
      exact hs
    · rename_i a n c b n2 c2
      split at hr <;> try exact hr.elim
      rename_i t n' c' f hf
      split at hr <;> try exact hr.elim
      rename_i t2 n2' c2' g hg
      obtain ⟨⟨hn, rfl, rfl, rfl, rfl, rfl, rfl⟩, hr⟩ := hr
      intro ν w R w0 Hs HK
      have H1 := Hs
      rw [SH.den_get ν hf, Assn.mul_assoc, SH.den_get ν hg, Assn.mul_assoc] at H1
      refine (read_two (sequal_run n' c' f n2' c2' g hn) rfl rfl rfl (ν := ν) (b0 := ν a) (b1 := ν b) rfl H1 HK).mono ?_
      rintro e w' ⟨he, hs, hk'⟩
      refine ⟨_, m, ν, hr, Agree.refl _ _, Nat.le_refl _, he, ?_, hk'⟩
      rw [SH.den_get ν hf, Assn.mul_assoc, SH.den_get ν hg, Assn.mul_assoc]
      exact hs
end Go.Proofs.Ytnkikhhiaecebaa
