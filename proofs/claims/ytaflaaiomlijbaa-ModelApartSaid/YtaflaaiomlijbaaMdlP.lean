/- Right operations and responses by the document; parts of a model. -/
import Derived.Test.YtaflaaiomlijbaaMdlR
set_option linter.all false
namespace Go.Proofs.Ytaflaaiomlijbaa
open Go Go.RowKit
set_option maxRecDepth 1000000
set_option maxHeartbeats 0
structure RespR (k v : Int) : Prop where
  k0 : 0 ≤ k
  k1 : k ≤ 5
  v0 : 0 ≤ v
  v1 : v ≤ 268435455
  h : v = 0 ∨ k = 0 ∨ k = 4
instance (k v : Int) : Decidable (RespR k v) := if h : 0 ≤ k ∧ k ≤ 5 ∧ 0 ≤ v ∧ v ≤ 268435455 ∧ (v = 0 ∨ k = 0 ∨ k = 4) then isTrue ⟨h.1, h.2.1, h.2.2.1, h.2.2.2.1, h.2.2.2.2⟩ else isFalse fun r => h ⟨r.k0, r.k1, r.v0, r.v1, r.h⟩
def rrOuts (k v : Int) : List (Out XN) := [Out.one (.c (.boo false (decide (RespR k v))))]
def r5Outs (c k a b : Int) : List (Out XN) := [Out.one (.c (.boo false (decide (RightO c k a b))))]
def paOuts (c k a b : Int) : List (Out XN) := [Out.one (.c (.int false .i64 (partF c k a b)))]
theorem tabU {c : Int} (h0 : 0 ≤ c) (h1 : c < 15) : ([0, 2, 0, 0, 1, 3, 1, 7, 0, 1, 3, 1, 1, 1, 1] : List Int).getD (addO true 0 c.toNat) 0 = (if usesK c = true then 1 else 0) + (if usesA c = true then 2 else 0) + (if usesB c = true then 4 else 0) := by
  rcases c15 h0 h1 with rfl | rfl | rfl | rfl | rfl | rfl | rfl | rfl | rfl | rfl | rfl | rfl | rfl | rfl | rfl <;> decide
theorem right5_eq {c k a b : Int} (c0 : 0 ≤ c) (c1 : c < 15) (k0 : 0 ≤ k) (k1 : k ≤ 255) (a0 : 0 ≤ a) (a1 : a ≤ 1023) (b0 : 0 ≤ b) (b1 : b ≤ 1023) :
    RightO c k a b ↔ (k = 0 ∨ ([0, 2, 0, 0, 1, 3, 1, 7, 0, 1, 3, 1, 1, 1, 1] : List Int).getD (addO true 0 c.toNat) 0 % 2 = 1) ∧ (a = 0 ∨ ([0, 2, 0, 0, 1, 3, 1, 7, 0, 1, 3, 1, 1, 1, 1] : List Int).getD (addO true 0 c.toNat) 0 / 2 % 2 = 1) ∧ (b = 0 ∨ ([0, 2, 0, 0, 1, 3, 1, 7, 0, 1, 3, 1, 1, 1, 1] : List Int).getD (addO true 0 c.toNat) 0 > 3) := by
  have e := tabU c0 c1
  rw [e]
  cases hK : usesK c <;> cases hA : usesA c <;> cases hB : usesB c <;> simp only [if_true, Bool.false_eq_true, if_false]
  all_goals
    constructor
    · intro r
      have h1 := r.ku; have h2 := r.au; have h3 := r.bu
      rw [hK] at h1; rw [hA] at h2; rw [hB] at h3
      simp only [Bool.false_eq_true, imp_false] at h1 h2 h3
      omega
    · intro h
      refine ⟨c0, by omega, k0, k1, fun hk => ?_, a0, a1, fun ha => ?_, b0, b1, fun hb => ?_⟩
      · first | exact hK | (exfalso; omega)
      · first | exact hA | (exfalso; omega)
      · first | exact hB | (exfalso; omega)
theorem tab_bd {c : Int} (c0 : 0 ≤ c) (c1 : c < 15) : 0 ≤ ([0, 2, 0, 0, 1, 3, 1, 7, 0, 1, 3, 1, 1, 1, 1] : List Int).getD (addO true 0 c.toNat) 0 ∧ ([0, 2, 0, 0, 1, 3, 1, 7, 0, 1, 3, 1, 1, 1, 1] : List Int).getD (addO true 0 c.toNat) 0 ≤ 7 := by
  rw [tabU c0 c1]
  split <;> split <;> split <;> omega
/-- What the executor leaves to be shown of roundelay/roundelayref05.RightResp, written out. -/
theorem rresp_vc (k x : Int) : (callN Try.prog ([] : List (Smry Try.prog XN)) (fun _ _ => false) 100 20 42 [.agg [.int false .i64 k, .int false .i64 x]] ⟨[], 100⟩ (bN 10) (fun v m _ => nthO (rrOuts k x) ((fun _ => 0) v) v m)) = (
    (decide (k < (0 : Int)) = true → ∃ (z : Un), True ∧ decide (RespR k x) = false ∧ True) ∧ (decide (k < (0 : Int)) = false → (decide (k > (5 : Int)) = true → ∃ (z : Un), True ∧ decide
    (RespR k x) = false ∧ True) ∧ (decide (k > (5 : Int)) = false → (decide (x < (0 : Int)) = true → ∃ (z : Un), True ∧ decide (RespR k x) = false ∧ True) ∧ (decide (x < (0 : Int)) =
    false → (decide (x > (268435455 : Int)) = true → ∃ (z : Un), True ∧ decide (RespR k x) = false ∧ True) ∧ (decide (x > (268435455 : Int)) = false → ((x == (0 : Int)) = true → ∃ (z :
    Un), True ∧ decide (RespR k x) = true ∧ True) ∧ ((x == (0 : Int)) = false → ((k == (0 : Int)) = true → ∃ (z : Un), True ∧ decide (RespR k x) = true ∧ True) ∧ ((k == (0 : Int)) =
    false → ∃ (z : Un), True ∧ decide (RespR k x) = (k == (4 : Int)) ∧ True))))))) := by
  kernel_rfl
theorem rresp_run (k x : Int) (hc : True) : Run (callN Try.prog ([] : List (Smry Try.prog XN)) (fun _ _ => false) 100 20 42 [.agg [.int false .i64 k, .int false .i64 x]] ⟨[], 100⟩ (bN 10) (fun v m _ => nthO (rrOuts k x) ((fun _ => 0) v) v m)) := by
  constructor
  rw [rresp_vc]
  repeat' first
    | with_reducible apply And.intro
    | with_reducible exact trivial
    | with_reducible exact fun _ h => h
    | with_reducible exact Eq.refl _
    | (intro (K : KO XN); simp only [and_imp]; intros; repeat' first | with_reducible apply And.intro | with_reducible exact trivial | with_reducible exact Eq.refl _ | with_reducible assumption)
    | (with_reducible refine fun (h : (_ == _) = true) => ?_; replace h := eq_of_beq h)
    | (with_reducible refine fun (h : (_ == _) = false) => ?_; replace h := beq_eq_false_iff_ne.1 h)
    | (with_reducible refine fun (h : decide _ = true) => ?_; replace h := of_decide_eq_true h)
    | (with_reducible refine fun (h : decide _ = false) => ?_; replace h := of_decide_eq_false h)
    | intro _

  all_goals first
    | omega
    | (refine ⟨.mk, trivial, decide_eq_true ⟨by omega, by omega, by omega, by omega, by omega⟩, trivial⟩)
    | (refine ⟨.mk, trivial, decide_eq_false fun r => ?_, trivial⟩
       have h0 := r.k0; have h1 := r.k1; have h2 := r.v0; have h3 := r.v1; have h4 := r.h
       omega)
    | (refine ⟨.mk, trivial, ?_, trivial⟩
       first
         | (apply Eq.symm; apply decide_eq_true; refine ⟨by omega, by omega, by omega, by omega, by omega⟩)
         | (symm; by_cases h4 : k = 4
            · rw [decide_eq_true (show RespR k x from ⟨by omega, by omega, by omega, by omega, by omega⟩)]; simp [h4]
            · rw [decide_eq_false (fun r : RespR k x => by have := r.h; omega)]; simp [h4])
         | (by_cases h4 : k = 4
            · rw [decide_eq_true (show RespR k x from ⟨by omega, by omega, by omega, by omega, by omega⟩)]; simp [h4]
            · rw [decide_eq_false (fun r : RespR k x => by have := r.h; omega)]; simp [h4]))
    | skip
def rrespS : Smry Try.prog XN := outS 42 (fun args => match args with
  | [.agg [.int _ .i64 k _, .int _ .i64 x _]] => some ([.agg [.int false .i64 k, .int false .i64 x]], True, rrOuts k x)
  | _ => none)
  ⟨(by intro args na c os h ν; split at h <;> first | (cases h; rfl) | cases h), (by intro args na c os h hc; split at h <;> first | (cases h; exact ⟨([] : List (Smry Try.prog XN)), _, _, _, _, _, rresp_run _ _ hc⟩) | cases h)⟩
/-- What the executor leaves to be shown of roundelay/roundelayref05.Right, written out. -/
theorem right5_vc (c k a b : Int) : (callN Try.prog ([] : List (Smry Try.prog XN)) (fun _ _ => false) 100 20 52 [.agg [.int false .i64 c, .int false .i64 k, .int false .i64 a, .int false .i64 b]] ⟨[], 100⟩ (bN 20) (fun v m _ => nthO (r5Outs c k a b) ((fun _ => 0) v) v m)) = (
    (decide (c < (0 : Int)) = true → ∃ (z : Un), True ∧ decide (RightO c k a b) = false ∧ True) ∧ (decide (c < (0 : Int)) = false → (decide (c > (14 : Int)) = true → ∃ (z : Un), True ∧
    decide (RightO c k a b) = false ∧ True) ∧ (decide (c > (14 : Int)) = false → (decide (k < (0 : Int)) = true → ∃ (z : Un), True ∧ decide (RightO c k a b) = false ∧ True) ∧ (decide (k
    < (0 : Int)) = false → (decide (k > (255 : Int)) = true → ∃ (z : Un), True ∧ decide (RightO c k a b) = false ∧ True) ∧ (decide (k > (255 : Int)) = false → (decide (a < (0 : Int)) =
    true → ∃ (z : Un), True ∧ decide (RightO c k a b) = false ∧ True) ∧ (decide (a < (0 : Int)) = false → (decide (a > (1023 : Int)) = true → ∃ (z : Un), True ∧ decide (RightO c k a b)
    = false ∧ True) ∧ (decide (a > (1023 : Int)) = false → (decide (b < (0 : Int)) = true → ∃ (z : Un), True ∧ decide (RightO c k a b) = false ∧ True) ∧ (decide (b < (0 : Int)) = false
    → (decide (b > (1023 : Int)) = true → ∃ (z : Un), True ∧ decide (RightO c k a b) = false ∧ True) ∧ (decide (b > (1023 : Int)) = false → ((0 : Int) ≤ c ∧ c < (15 : Int)) ∧ addO true
    (0 : Nat) c.toNat < (15 : Nat) ∧ ((k == (0 : Int)) = true → ((a == (0 : Int)) = true → ((b == (0 : Int)) = true → ∃ (z : Un), True ∧ decide (RightO c k a b) = true ∧ True) ∧ ((b ==
    (0 : Int)) = false → ∃ (z : Un), True ∧ decide (RightO c k a b) = decide ([(0 : Int), (2 : Int), (0 : Int), (0 : Int), (1 : Int), (3 : Int), (1 : Int), (7 : Int), (0 : Int), (1 :
    Int), (3 : Int), (1 : Int), (1 : Int), (1 : Int), (1 : Int)].getD (addO true (0 : Nat) c.toNat) (0 : Int) > (3 : Int)) ∧ True)) ∧ ((a == (0 : Int)) = false → ((0 : Int) ≤ [(0 :
    Int), (2 : Int), (0 : Int), (0 : Int), (1 : Int), (3 : Int), (1 : Int), (7 : Int), (0 : Int), (1 : Int), (3 : Int), (1 : Int), (1 : Int), (1 : Int), (1 : Int)].getD (addO true (0 :
    Nat) c.toNat) (0 : Int) ∧ (0 : Int) < (2 : Int) ∧ (-9223372036854775808 : Int) ≤ [(0 : Int), (2 : Int), (0 : Int), (0 : Int), (1 : Int), (3 : Int), (1 : Int), (7 : Int), (0 : Int),
    (1 : Int), (3 : Int), (1 : Int), (1 : Int), (1 : Int), (1 : Int)].getD (addO true (0 : Nat) c.toNat) (0 : Int) ∧ [(0 : Int), (2 : Int), (0 : Int), (0 : Int), (1 : Int), (3 : Int),
    (1 : Int), (7 : Int), (0 : Int), (1 : Int), (3 : Int), (1 : Int), (1 : Int), (1 : Int), (1 : Int)].getD (addO true (0 : Nat) c.toNat) (0 : Int) ≤ (9223372036854775807 : Int)) ∧ ((0
    : Int) ≤ [(0 : Int), (2 : Int), (0 : Int), (0 : Int), (1 : Int), (3 : Int), (1 : Int), (7 : Int), (0 : Int), (1 : Int), (3 : Int), (1 : Int), (1 : Int), (1 : Int), (1 : Int)].getD
    (addO true (0 : Nat) c.toNat) (0 : Int) / (2 : Int) ∧ (0 : Int) < (2 : Int)) ∧ (([(0 : Int), (2 : Int), (0 : Int), (0 : Int), (1 : Int), (3 : Int), (1 : Int), (7 : Int), (0 : Int),
    (1 : Int), (3 : Int), (1 : Int), (1 : Int), (1 : Int), (1 : Int)].getD (addO true (0 : Nat) c.toNat) (0 : Int) / (2 : Int) % (2 : Int) == (1 : Int)) = true → ((b == (0 : Int)) =
    true → ∃ (z : Un), True ∧ decide (RightO c k a b) = true ∧ True) ∧ ((b == (0 : Int)) = false → ∃ (z : Un), True ∧ decide (RightO c k a b) = decide ([(0 : Int), (2 : Int), (0 : Int),
    (0 : Int), (1 : Int), (3 : Int), (1 : Int), (7 : Int), (0 : Int), (1 : Int), (3 : Int), (1 : Int), (1 : Int), (1 : Int), (1 : Int)].getD (addO true (0 : Nat) c.toNat) (0 : Int) > (3
    : Int)) ∧ True)) ∧ (([(0 : Int), (2 : Int), (0 : Int), (0 : Int), (1 : Int), (3 : Int), (1 : Int), (7 : Int), (0 : Int), (1 : Int), (3 : Int), (1 : Int), (1 : Int), (1 : Int), (1 :
    Int)].getD (addO true (0 : Nat) c.toNat) (0 : Int) / (2 : Int) % (2 : Int) == (1 : Int)) = false → ∃ (z : Un), True ∧ decide (RightO c k a b) = false ∧ True))) ∧ ((k == (0 : Int)) =
    false → ((0 : Int) ≤ [(0 : Int), (2 : Int), (0 : Int), (0 : Int), (1 : Int), (3 : Int), (1 : Int), (7 : Int), (0 : Int), (1 : Int), (3 : Int), (1 : Int), (1 : Int), (1 : Int), (1 :
    Int)].getD (addO true (0 : Nat) c.toNat) (0 : Int) ∧ (0 : Int) < (2 : Int)) ∧ (([(0 : Int), (2 : Int), (0 : Int), (0 : Int), (1 : Int), (3 : Int), (1 : Int), (7 : Int), (0 : Int),
    (1 : Int), (3 : Int), (1 : Int), (1 : Int), (1 : Int), (1 : Int)].getD (addO true (0 : Nat) c.toNat) (0 : Int) % (2 : Int) == (1 : Int)) = true → ((a == (0 : Int)) = true → ((b ==
    (0 : Int)) = true → ∃ (z : Un), True ∧ decide (RightO c k a b) = true ∧ True) ∧ ((b == (0 : Int)) = false → ∃ (z : Un), True ∧ decide (RightO c k a b) = decide ([(0 : Int), (2 :
    Int), (0 : Int), (0 : Int), (1 : Int), (3 : Int), (1 : Int), (7 : Int), (0 : Int), (1 : Int), (3 : Int), (1 : Int), (1 : Int), (1 : Int), (1 : Int)].getD (addO true (0 : Nat)
    c.toNat) (0 : Int) > (3 : Int)) ∧ True)) ∧ ((a == (0 : Int)) = false → ((0 : Int) ≤ [(0 : Int), (2 : Int), (0 : Int), (0 : Int), (1 : Int), (3 : Int), (1 : Int), (7 : Int), (0 :
    Int), (1 : Int), (3 : Int), (1 : Int), (1 : Int), (1 : Int), (1 : Int)].getD (addO true (0 : Nat) c.toNat) (0 : Int) ∧ (0 : Int) < (2 : Int) ∧ (-9223372036854775808 : Int) ≤ [(0 :
    Int), (2 : Int), (0 : Int), (0 : Int), (1 : Int), (3 : Int), (1 : Int), (7 : Int), (0 : Int), (1 : Int), (3 : Int), (1 : Int), (1 : Int), (1 : Int), (1 : Int)].getD (addO true (0 :
    Nat) c.toNat) (0 : Int) ∧ [(0 : Int), (2 : Int), (0 : Int), (0 : Int), (1 : Int), (3 : Int), (1 : Int), (7 : Int), (0 : Int), (1 : Int), (3 : Int), (1 : Int), (1 : Int), (1 : Int),
    (1 : Int)].getD (addO true (0 : Nat) c.toNat) (0 : Int) ≤ (9223372036854775807 : Int)) ∧ ((0 : Int) ≤ [(0 : Int), (2 : Int), (0 : Int), (0 : Int), (1 : Int), (3 : Int), (1 : Int),
    (7 : Int), (0 : Int), (1 : Int), (3 : Int), (1 : Int), (1 : Int), (1 : Int), (1 : Int)].getD (addO true (0 : Nat) c.toNat) (0 : Int) / (2 : Int) ∧ (0 : Int) < (2 : Int)) ∧ (([(0 :
    Int), (2 : Int), (0 : Int), (0 : Int), (1 : Int), (3 : Int), (1 : Int), (7 : Int), (0 : Int), (1 : Int), (3 : Int), (1 : Int), (1 : Int), (1 : Int), (1 : Int)].getD (addO true (0 :
    Nat) c.toNat) (0 : Int) / (2 : Int) % (2 : Int) == (1 : Int)) = true → ((b == (0 : Int)) = true → ∃ (z : Un), True ∧ decide (RightO c k a b) = true ∧ True) ∧ ((b == (0 : Int)) =
    false → ∃ (z : Un), True ∧ decide (RightO c k a b) = decide ([(0 : Int), (2 : Int), (0 : Int), (0 : Int), (1 : Int), (3 : Int), (1 : Int), (7 : Int), (0 : Int), (1 : Int), (3 :
    Int), (1 : Int), (1 : Int), (1 : Int), (1 : Int)].getD (addO true (0 : Nat) c.toNat) (0 : Int) > (3 : Int)) ∧ True)) ∧ (([(0 : Int), (2 : Int), (0 : Int), (0 : Int), (1 : Int), (3 :
    Int), (1 : Int), (7 : Int), (0 : Int), (1 : Int), (3 : Int), (1 : Int), (1 : Int), (1 : Int), (1 : Int)].getD (addO true (0 : Nat) c.toNat) (0 : Int) / (2 : Int) % (2 : Int) == (1 :
    Int)) = false → ∃ (z : Un), True ∧ decide (RightO c k a b) = false ∧ True))) ∧ (([(0 : Int), (2 : Int), (0 : Int), (0 : Int), (1 : Int), (3 : Int), (1 : Int), (7 : Int), (0 : Int),
    (1 : Int), (3 : Int), (1 : Int), (1 : Int), (1 : Int), (1 : Int)].getD (addO true (0 : Nat) c.toNat) (0 : Int) % (2 : Int) == (1 : Int)) = false → ∃ (z : Un), True ∧ decide (RightO
    c k a b) = false ∧ True))))))))))) := by
  kernel_rfl
theorem right5_run (c k a b : Int) (hc : True) : Run (callN Try.prog ([] : List (Smry Try.prog XN)) (fun _ _ => false) 100 20 52 [.agg [.int false .i64 c, .int false .i64 k, .int false .i64 a, .int false .i64 b]] ⟨[], 100⟩ (bN 20) (fun v m _ => nthO (r5Outs c k a b) ((fun _ => 0) v) v m)) := by
  constructor
  rw [right5_vc]
  repeat' first
    | with_reducible apply And.intro
    | with_reducible exact trivial
    | with_reducible exact fun _ h => h
    | with_reducible exact Eq.refl _
    | (intro (K : KO XN); simp only [and_imp]; intros; repeat' first | with_reducible apply And.intro | with_reducible exact trivial | with_reducible exact Eq.refl _ | with_reducible assumption)
    | (with_reducible refine fun (h : (_ == _) = true) => ?_; replace h := eq_of_beq h)
    | (with_reducible refine fun (h : (_ == _) = false) => ?_; replace h := beq_eq_false_iff_ne.1 h)
    | (with_reducible refine fun (h : decide _ = true) => ?_; replace h := of_decide_eq_true h)
    | (with_reducible refine fun (h : decide _ = false) => ?_; replace h := of_decide_eq_false h)
    | intro _

  all_goals first
    | omega
    | (rw [addO_eq]; omega)
    | (have hb := tab_bd (c := c) (by omega) (by omega); omega)
    | (refine ⟨.mk, trivial, decide_eq_false fun r => ?_, trivial⟩
       have h0 := r.c0; have h1 := r.c1; have h2 := r.k0; have h3 := r.k1; have h4 := r.a0; have h5 := r.a1; have h6 := r.b0; have h7 := r.b1
       first
         | omega
         | (have hq := (right5_eq (by omega) (by omega) h2 h3 h4 h5 h6 h7).1 r; omega))
    | (refine ⟨.mk, trivial, decide_eq_true ?_, trivial⟩
       exact (right5_eq (by omega) (by omega) (by omega) (by omega) (by omega) (by omega) (by omega) (by omega)).2 ⟨by omega, by omega, by omega⟩)
    | (refine ⟨.mk, trivial, ?_, trivial⟩
       have hq := right5_eq (c := c) (k := k) (a := a) (b := b) (by omega) (by omega) (by omega) (by omega) (by omega) (by omega) (by omega) (by omega)
       exact decide_eq_decide.2 ⟨fun r => by have := hq.1 r; omega, fun h => hq.2 ⟨by omega, by omega, by omega⟩⟩)
    | skip
def right5S : Smry Try.prog XN := outS 52 (fun args => match args with
  | [.agg [.int _ .i64 c _, .int _ .i64 k _, .int _ .i64 a _, .int _ .i64 b _]] => some ([.agg [.int false .i64 c, .int false .i64 k, .int false .i64 a, .int false .i64 b]], True, r5Outs c k a b)
  | _ => none)
  ⟨(by intro args na c os h ν; split at h <;> first | (cases h; rfl) | cases h), (by intro args na c os h hc; split at h <;> first | (cases h; exact ⟨([] : List (Smry Try.prog XN)), _, _, _, _, _, right5_run _ _ _ _ hc⟩) | cases h)⟩
/-- What the executor leaves to be shown of roundelay/roundelaylaw06.part, written out. -/
theorem part_vc (c k a b : Int) : (callN Try.prog ([right5S] : List (Smry Try.prog XN)) (fun _ _ => false) 100 20 43 [.agg [.int false .i64 c, .int false .i64 k, .int false .i64 a, .int false .i64 b]] ⟨[], 100⟩ (bN 10) (fun v m _ => nthO (paOuts c k a b) ((fun _ => 0) v) v m)) = (
    True ∧ (∀ (z : Un), True → ((!decide (RightO c k a b)) = true → ∃ (z : Un), True ∧ partF c k a b = (0 : Int) ∧ True) ∧ ((!decide (RightO c k a b)) = false → ((c == (0 : Int)) = true
    → ∃ (z : Un), True ∧ partF c k a b = (0 : Int) ∧ True) ∧ ((c == (0 : Int)) = false → ((c == (8 : Int)) = true → ∃ (z : Un), True ∧ partF c k a b = (0 : Int) ∧ True) ∧ ((c == (8 :
    Int)) = false → ((c == (9 : Int)) = true → ∃ (z : Un), True ∧ partF c k a b = (0 : Int) ∧ True) ∧ ((c == (9 : Int)) = false → (decide (c ≤ (3 : Int)) = true → ∃ (z : Un), True ∧
    partF c k a b = (1 : Int) ∧ True) ∧ (decide (c ≤ (3 : Int)) = false → (decide (c ≤ (9 : Int)) = true → ((-9223372036854775808 : Int) ≤ (2 : Int) + k ∧ (2 : Int) + k ≤
    (9223372036854775807 : Int)) ∧ ∃ (z : Un), True ∧ partF c k a b = (2 : Int) + k ∧ True) ∧ (decide (c ≤ (9 : Int)) = false → ((-9223372036854775808 : Int) ≤ (1000 : Int) + k ∧ (1000
    : Int) + k ≤ (9223372036854775807 : Int)) ∧ ∃ (z : Un), True ∧ partF c k a b = (1000 : Int) + k ∧ True))))))) ∧ True) := by
  kernel_rfl
theorem part_run (c k a b : Int) (hc : True) : Run (callN Try.prog ([right5S] : List (Smry Try.prog XN)) (fun _ _ => false) 100 20 43 [.agg [.int false .i64 c, .int false .i64 k, .int false .i64 a, .int false .i64 b]] ⟨[], 100⟩ (bN 10) (fun v m _ => nthO (paOuts c k a b) ((fun _ => 0) v) v m)) := by
  constructor
  rw [part_vc]
  repeat' first
    | with_reducible apply And.intro
    | with_reducible exact trivial
    | with_reducible exact fun _ h => h
    | with_reducible exact Eq.refl _
    | (intro (K : KO XN); simp only [and_imp]; intros; repeat' first | with_reducible apply And.intro | with_reducible exact trivial | with_reducible exact Eq.refl _ | with_reducible assumption)
    | (with_reducible refine fun (h : (_ == _) = true) => ?_; replace h := eq_of_beq h)
    | (with_reducible refine fun (h : (_ == _) = false) => ?_; replace h := beq_eq_false_iff_ne.1 h)
    | (with_reducible refine fun (h : (!decide _) = true) => ?_; replace h := of_decide_eq_false (notT h))
    | (with_reducible refine fun (h : (!decide _) = false) => ?_; replace h := of_decide_eq_true (notF h))
    | (with_reducible refine fun (h : decide _ = true) => ?_; replace h := of_decide_eq_true h)
    | (with_reducible refine fun (h : decide _ = false) => ?_; replace h := of_decide_eq_false h)
    | intro _

  all_goals first
    | omega
    | (have h0 := (‹RightO c k a b›).k0; have h1 := (‹RightO c k a b›).k1; omega)
    | (refine ⟨.mk, trivial, ?_, trivial⟩
       unfold partF
       first
         | (rw [if_pos (.inl ‹¬ RightO c k a b›)]; done)
         | (rw [if_pos (.inr (by omega))]; done)
         | (rw [if_neg (fun h => by rcases h with h | h; exact h ‹RightO c k a b›; omega)]
            first
              | (rw [if_pos (by omega)]; done)
              | (rw [if_neg (by omega), if_pos (by omega)]; done)
              | (rw [if_neg (by omega), if_neg (by omega)]; done)))
    | skip
def partS : Smry Try.prog XN := outS 43 (fun args => match args with
  | [.agg [.int _ .i64 c _, .int _ .i64 k _, .int _ .i64 a _, .int _ .i64 b _]] => some ([.agg [.int false .i64 c, .int false .i64 k, .int false .i64 a, .int false .i64 b]], True, paOuts c k a b)
  | _ => none)
  ⟨(by intro args na c os h ν; split at h <;> first | (cases h; rfl) | cases h), (by intro args na c os h hc; split at h <;> first | (cases h; exact ⟨([right5S] : List (Smry Try.prog XN)), _, _, _, _, _, part_run _ _ _ _ hc⟩) | cases h)⟩
end Go.Proofs.Ytaflaaiomlijbaa
