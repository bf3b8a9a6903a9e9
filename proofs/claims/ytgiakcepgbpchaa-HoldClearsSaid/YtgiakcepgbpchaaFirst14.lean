/- The statements of layer 14: first answers true, by the executor. -/
import Derived.Test.YtgiakcepgbpchaaBaseSeg
import Derived.Test.YtgiakcepgbpchaaSumCnt2
import Derived.Test.YtgiakcepgbpchaaSumDir
import Derived.Test.YtgiakcepgbpchaaBaseC
set_option linter.all false
namespace Go.Proofs.Ytgiakcepgbpchaa
open Go
set_option maxRecDepth 1000000
set_option maxHeartbeats 0
def tblF : List (Smry Try.prog XE) := [segsY, wordS, fixedS, segS, newX, layX true, readX.known, writeX, stepX, doneX.known, enterX, exitX, faultsX.known, tallyX.known, leftX.known]
/-- What the executor leaves to be shown, written out. -/
theorem first14_vc  : (callN Try.prog tblF (fun _ _ => false) 100 20 25 [] ⟨[], 0⟩ .nil (fun v _ _ => retTrue v)) = (
    ∀ (v : Value) (cap : Nat) (z : Nat → Int) (ad : Option Addr) (ln cp : Nat), SegOk (1 : Nat) (segA [v]) → (1 : Nat) ≤ cap → (0 : Nat) < (1 : Nat) ∧ (4 : Nat) = (4 : Nat) ∧ (4 : Nat)
    = (4 : Nat) ∧ ((1 : Nat) ≤ (4 : Nat) ∧ (4 : Nat) ≤ (2048 : Nat)) ∧ (segA [v]).used + (4 : Nat) ≤ (segA [v]).cap ∧ ([] : List Nat) = [] ∧ (segA [v]).births < (268435455 : Nat) ∧ True
    ∧ ∀ (v_1 : Value), ((segA [v]).lay [(5 : Nat), (6 : Nat), (7 : Nat), (8 : Nat)] v_1).Has (0 : Int) (0 : Int) ∧ ((0 : Int) ≤ (137441050627 : Int) ∧ (137441050627 : Int) <
    (18446744073709551616 : Int)) ∧ ((65537 : Int) = (65537 : Int) ∧ ((((segA [v]).lay [(5 : Nat), (6 : Nat), (7 : Nat), (8 : Nat)] v_1).write (0 : Int) (0 : Int) (137441050627 :
    Int)).Has (0 : Int) (0 : Int) ∧ ((((0 : Int) ≤ (65537 : Int) ∧ ((((segA [v]).lay [(5 : Nat), (6 : Nat), (7 : Nat), (8 : Nat)] v_1).write (0 : Int) (0 : Int) (137441050627 :
    Int)).read.Has (65537 : Int) (3 : Int) ∧ ((0 : Int) ≤ (131074 : Int) ∧ (131074 : Int) < (18446744073709551616 : Int)) ∧ (65537 : Int) = (65537 : Int) ∧ ((65537 : Int) = (65537 :
    Int) ∧ (((((segA [v]).lay [(5 : Nat), (6 : Nat), (7 : Nat), (8 : Nat)] v_1).write (0 : Int) (0 : Int) (137441050627 : Int)).read.write (65537 : Int) (3 : Int) (131074 : Int)).Has (0
    : Int) (0 : Int) ∧ ((65537 : Int) = (65537 : Int) ∧ Value.nilFunc = Value.nilFunc ∧ (65537 : Int) = (65537 : Int) ∧ (((0 : Int) ≤ (65537 : Int) ∧ (((((segA [v]).lay [(5 : Nat), (6 :
    Nat), (7 : Nat), (8 : Nat)] v_1).write (0 : Int) (0 : Int) (137441050627 : Int)).read.write (65537 : Int) (3 : Int) (131074 : Int)).read.Has (65537 : Int) (4 : Int) ∧ ((0 : Int) ≤
    (131074 : Int) ∧ (131074 : Int) < (18446744073709551616 : Int)) ∧ ((65537 : Int) = (65537 : Int) ∧ ((((((segA [v]).lay [(5 : Nat), (6 : Nat), (7 : Nat), (8 : Nat)] v_1).write (0 :
    Int) (0 : Int) (137441050627 : Int)).read.write (65537 : Int) (3 : Int) (131074 : Int)).read.write (65537 : Int) (4 : Int) (131074 : Int)).Has (0 : Int) (0 : Int) ∧ ((((((segA
    [v]).lay [(5 : Nat), (6 : Nat), (7 : Nat), (8 : Nat)] v_1).write (0 : Int) (0 : Int) (137441050627 : Int)).read.write (65537 : Int) (3 : Int) (131074 : Int)).read.write (65537 :
    Int) (4 : Int) (131074 : Int)).read.Has (131074 : Int) (0 : Int) ∧ (65537 : Int) = (65537 : Int) ∧ True ∧ True ∧ (1 : Nat) ≤ (1000000000 : Nat) ∧ ∀ (cap : Nat), (1 : Nat) ≤ cap →
    ((((((segA [v]).lay [(5 : Nat), (6 : Nat), (7 : Nat), (8 : Nat)] v_1).write (0 : Int) (0 : Int) (137441050627 : Int)).read.write (65537 : Int) (3 : Int) (131074 : Int)).read.write
    (65537 : Int) (4 : Int) (131074 : Int)).read.read.Has (131074 : Int) (1 : Int) ∧ (65537 : Int) = (65537 : Int) ∧ (0 : Nat) = (0 : Nat) ∧ cap = cap ∧ cap = cap ∧ cap = cap ∧ True ∧
    (2 : Nat) ≤ (1000000000 : Nat) ∧ ∀ (cap : Nat), (2 : Nat) ≤ cap → ((((((segA [v]).lay [(5 : Nat), (6 : Nat), (7 : Nat), (8 : Nat)] v_1).write (0 : Int) (0 : Int) (137441050627 :
    Int)).read.write (65537 : Int) (3 : Int) (131074 : Int)).read.write (65537 : Int) (4 : Int) (131074 : Int)).read.read.read.Has (131074 : Int) (2 : Int) ∧ (65537 : Int) = (65537 :
    Int) ∧ (0 : Nat) = (0 : Nat) ∧ cap = cap ∧ cap = cap ∧ cap = cap ∧ True ∧ (3 : Nat) ≤ (1000000000 : Nat) ∧ ∀ (cap : Nat), (3 : Nat) ≤ cap → ((((((segA [v]).lay [(5 : Nat), (6 :
    Nat), (7 : Nat), (8 : Nat)] v_1).write (0 : Int) (0 : Int) (137441050627 : Int)).read.write (65537 : Int) (3 : Int) (131074 : Int)).read.write (65537 : Int) (4 : Int) (131074 :
    Int)).read.read.read.read.Has (131074 : Int) (3 : Int) ∧ (65537 : Int) = (65537 : Int) ∧ (0 : Nat) = (0 : Nat) ∧ cap = cap ∧ cap = cap ∧ cap = cap ∧ True ∧ (4 : Nat) ≤ (1000000000 :
    Nat) ∧ ∀ (cap : Nat), (4 : Nat) ≤ cap → (0 : Nat) < (1 : Nat) ∧ (((((segA [v]).lay [(5 : Nat), (6 : Nat), (7 : Nat), (8 : Nat)] v_1).write (0 : Int) (0 : Int) (137441050627 :
    Int)).read.write (65537 : Int) (3 : Int) (131074 : Int)).read.write (65537 : Int) (4 : Int) (131074 : Int)).read.read.read.read.read.Has (65537 : Int) (3 : Int) ∧ (0 : Nat) < (1 :
    Nat) ∧ (((((segA [v]).lay [(5 : Nat), (6 : Nat), (7 : Nat), (8 : Nat)] v_1).write (0 : Int) (0 : Int) (137441050627 : Int)).read.write (65537 : Int) (3 : Int) (131074 :
    Int)).read.write (65537 : Int) (4 : Int) (131074 : Int)).read.read.read.read.read.read.Has (65537 : Int) (4 : Int) ∧ ((65537 : Int) = (65537 : Int) ∧ Value.nilFunc = Value.nilFunc ∧
    (65537 : Int) = (65537 : Int) ∧ (((0 : Int) ≤ (65537 : Int) ∧ ((((((segA [v]).lay [(5 : Nat), (6 : Nat), (7 : Nat), (8 : Nat)] v_1).write (0 : Int) (0 : Int) (137441050627 :
    Int)).read.write (65537 : Int) (3 : Int) (131074 : Int)).read.write (65537 : Int) (4 : Int) (131074 : Int)).read.read.read.read.read.read.read.Has (65537 : Int) (4 : Int) ∧ ((0 :
    Int) ≤ (131074 : Int) ∧ (131074 : Int) < (18446744073709551616 : Int)) ∧ ((65537 : Int) = (65537 : Int) ∧ (((((((segA [v]).lay [(5 : Nat), (6 : Nat), (7 : Nat), (8 : Nat)]
    v_1).write (0 : Int) (0 : Int) (137441050627 : Int)).read.write (65537 : Int) (3 : Int) (131074 : Int)).read.write (65537 : Int) (4 : Int) (131074 :
    Int)).read.read.read.read.read.read.read.write (65537 : Int) (4 : Int) (131074 : Int)).Has (0 : Int) (0 : Int) ∧ (0 : Int) ≤ (65537 : Int) ∧ (((((((segA [v]).lay [(5 : Nat), (6 :
    Nat), (7 : Nat), (8 : Nat)] v_1).write (0 : Int) (0 : Int) (137441050627 : Int)).read.write (65537 : Int) (3 : Int) (131074 : Int)).read.write (65537 : Int) (4 : Int) (131074 :
    Int)).read.read.read.read.read.read.read.write (65537 : Int) (4 : Int) (131074 : Int)).read.Has (65537 : Int) (3 : Int) ∧ ((0 : Int) ≤ (0 : Int) ∧ (0 : Int) < (18446744073709551616
    : Int)) ∧ (0 : Int) ≤ (65537 : Int) ∧ ((((((((segA [v]).lay [(5 : Nat), (6 : Nat), (7 : Nat), (8 : Nat)] v_1).write (0 : Int) (0 : Int) (137441050627 : Int)).read.write (65537 :
    Int) (3 : Int) (131074 : Int)).read.write (65537 : Int) (4 : Int) (131074 : Int)).read.read.read.read.read.read.read.write (65537 : Int) (4 : Int) (131074 : Int)).read.write (65537
    : Int) (3 : Int) (0 : Int)).Has (65537 : Int) (4 : Int) ∧ ((0 : Int) ≤ (0 : Int) ∧ (0 : Int) < (18446744073709551616 : Int)) ∧ (0 : Nat) < (1 : Nat) ∧ ((((((((segA [v]).lay [(5 :
    Nat), (6 : Nat), (7 : Nat), (8 : Nat)] v_1).write (0 : Int) (0 : Int) (137441050627 : Int)).read.write (65537 : Int) (3 : Int) (131074 : Int)).read.write (65537 : Int) (4 : Int)
    (131074 : Int)).read.read.read.read.read.read.read.write (65537 : Int) (4 : Int) (131074 : Int)).read.write (65537 : Int) (3 : Int) (0 : Int)).write (65537 : Int) (4 : Int) (0 :
    Int)).Has (65537 : Int) (4 : Int) ∧ True ∧ True ∧ (4 : Nat) ≤ (1000000000 : Nat) ∧ ∀ (cap : Nat), (4 : Nat) ≤ cap → true = true) ∧ True) ∧ True) ∧ True) ∧ True) ∧ True) ∧ True) ∧
    True) ∧ True) ∧ True) ∧ True) ∧ True) ∧ True) ∧ True) ∧ True) ∧ True) ∧ True) ∧ True) ∧ True) ∧ True) ∧ True) ∧ True) ∧ True) ∧ True) ∧ True) ∧ True) ∧ True) := by
  kernel_rfl
theorem first14  : Run (callN Try.prog tblF (fun _ _ => false) 100 20 25 [] ⟨[], 0⟩ .nil (fun v _ _ => retTrue v)) := by
  constructor
  rw [first14_vc]
  repeat' first
    | with_reducible apply And.intro
    | with_reducible exact trivial
    | intro _
    | with_reducible exact Eq.refl _
  all_goals first
    | exact of_decide_eq_true (by kernel_rfl)
    | kernel_rfl
    | exact ⟨of_decide_eq_true (by kernel_rfl), of_decide_eq_true (by kernel_rfl), of_decide_eq_true (by kernel_rfl), by kernel_rfl⟩
    | exact ⟨of_decide_eq_true (by kernel_rfl), of_decide_eq_true (by kernel_rfl), of_decide_eq_true (by kernel_rfl), fun _ => ⟨of_decide_eq_true (by kernel_rfl), of_decide_eq_true (by kernel_rfl), of_decide_eq_true (by kernel_rfl), by kernel_rfl⟩⟩
    | exact ⟨of_decide_eq_true (by kernel_rfl), of_decide_eq_true (by kernel_rfl), of_decide_eq_true (by kernel_rfl), fun h => absurd h (of_decide_eq_true (by kernel_rfl))⟩
end Go.Proofs.Ytgiakcepgbpchaa
