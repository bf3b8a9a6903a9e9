/- The statements of layer 12: first answers true, by the executor. -/
import Derived.Test.YtnfpkadepomjjaaBaseSeg
import Derived.Test.YtnfpkadepomjjaaBasePar
set_option linter.all false
namespace Go.Proofs.Ytnfpkadepomjjaa
open Go
set_option maxRecDepth 1000000
set_option maxHeartbeats 0
def tblF : List (Smry Try.prog XE) := [newX, layX true, readX, writeX, stepX, doneX, enterX, exitX, faultsX, tallyX, leftX]
def ts : Nat → Scr XE
  | 0 => .nil
  | n + 1 => .t (ts n)
/-- What the executor leaves to be shown, written out. -/
theorem first12_vc  : (callN Try.prog tblF (fun _ _ => false) 100 20 60 [] ⟨[], 0⟩ (ts 20) (fun v _ _ => retTrue v)) = (
    ((0 : Int) ≤ (99 : Int) ∧ (99 : Int) ≤ (60000 : Int)) ∧ (28 : Nat) = (28 : Nat) ∧ (28 : Nat) = (28 : Nat) ∧ ((1 : Nat) ≤ (28 : Nat) ∧ (28 : Nat) ≤ (2048 : Nat)) ∧ (28 : Nat) ≤ (99 :
    Nat) ∧ ([] : List Nat) = [] ∧ (0 : Nat) < (268435455 : Nat) ∧ True ∧ ∀ (v : Value), ((0 : Int) ≤ (65537 : Int) ∧ (0 : Int) ≤ (5 : Int) ∧ (5 : Int) ≤ (254 : Int)) ∧ CntOk (enterC
    (65537 : Int) (5 : Int)) ((Ar.new (99 : Nat)).lay (List.replicate 28 0) v) ∧ CntOk (stepC (enterC (65537 : Int) (5 : Int))) (stepA (enterC (65537 : Int) (5 : Int)) ((Ar.new (99 :
    Nat)).lay (List.replicate 28 0) v)) ∧ CntOk (stepC (stepC (enterC (65537 : Int) (5 : Int)))) (stepA (stepC (enterC (65537 : Int) (5 : Int))) (stepA (enterC (65537 : Int) (5 : Int))
    ((Ar.new (99 : Nat)).lay (List.replicate 28 0) v))) ∧ (stepA (stepC (stepC (enterC (65537 : Int) (5 : Int)))) (stepA (stepC (enterC (65537 : Int) (5 : Int))) (stepA (enterC (65537 :
    Int) (5 : Int)) ((Ar.new (99 : Nat)).lay (List.replicate 28 0) v)))).Has (65537 : Int) (21 : Int) ∧ ((0 : Int) ≤ (65537 : Int) ∧ (0 : Int) ≤ (5 : Int) ∧ (5 : Int) ≤ (254 : Int)) ∧
    CntOk (cntNew (65537 : Nat) (5 : Nat) (1 : Int) (3 : Int) (18446744073709551615 : Nat)) (stepA (stepC (stepC (enterC (65537 : Int) (5 : Int)))) (stepA (stepC (enterC (65537 : Int)
    (5 : Int))) (stepA (enterC (65537 : Int) (5 : Int)) ((Ar.new (99 : Nat)).lay (List.replicate 28 0) v)))).read ∧ CntOk (stepC (cntNew (65537 : Nat) (5 : Nat) (1 : Int) (3 : Int)
    (18446744073709551615 : Nat))) (stepA (cntNew (65537 : Nat) (5 : Nat) (1 : Int) (3 : Int) (18446744073709551615 : Nat)) (stepA (stepC (stepC (enterC (65537 : Int) (5 : Int))))
    (stepA (stepC (enterC (65537 : Int) (5 : Int))) (stepA (enterC (65537 : Int) (5 : Int)) ((Ar.new (99 : Nat)).lay (List.replicate 28 0) v)))).read) ∧ CntOk (stepC (stepC (cntNew
    (65537 : Nat) (5 : Nat) (1 : Int) (3 : Int) (18446744073709551615 : Nat)))) (stepA (stepC (cntNew (65537 : Nat) (5 : Nat) (1 : Int) (3 : Int) (18446744073709551615 : Nat))) (stepA
    (cntNew (65537 : Nat) (5 : Nat) (1 : Int) (3 : Int) (18446744073709551615 : Nat)) (stepA (stepC (stepC (enterC (65537 : Int) (5 : Int)))) (stepA (stepC (enterC (65537 : Int) (5 :
    Int))) (stepA (enterC (65537 : Int) (5 : Int)) ((Ar.new (99 : Nat)).lay (List.replicate 28 0) v)))).read)) ∧ (stepA (stepC (stepC (cntNew (65537 : Nat) (5 : Nat) (1 : Int) (3 : Int)
    (18446744073709551615 : Nat)))) (stepA (stepC (cntNew (65537 : Nat) (5 : Nat) (1 : Int) (3 : Int) (18446744073709551615 : Nat))) (stepA (cntNew (65537 : Nat) (5 : Nat) (1 : Int) (3
    : Int) (18446744073709551615 : Nat)) (stepA (stepC (stepC (enterC (65537 : Int) (5 : Int)))) (stepA (stepC (enterC (65537 : Int) (5 : Int))) (stepA (enterC (65537 : Int) (5 : Int))
    ((Ar.new (99 : Nat)).lay (List.replicate 28 0) v)))).read))).Has (65537 : Int) (21 : Int) ∧ (stepA (stepC (stepC (cntNew (65537 : Nat) (5 : Nat) (1 : Int) (3 : Int)
    (18446744073709551615 : Nat)))) (stepA (stepC (cntNew (65537 : Nat) (5 : Nat) (1 : Int) (3 : Int) (18446744073709551615 : Nat))) (stepA (cntNew (65537 : Nat) (5 : Nat) (1 : Int) (3
    : Int) (18446744073709551615 : Nat)) (stepA (stepC (stepC (enterC (65537 : Int) (5 : Int)))) (stepA (stepC (enterC (65537 : Int) (5 : Int))) (stepA (enterC (65537 : Int) (5 : Int))
    ((Ar.new (99 : Nat)).lay (List.replicate 28 0) v)))).read))).read.Has (65537 : Int) (26 : Int) ∧ true = true ∧ true = true ∧ true = true ∧ ((↑((stepA (stepC (stepC (enterC
    (Int.ofNat ((65536 : Nat) + (1 : Nat))) (Int.ofNat ((4 : Nat) + (1 : Nat)))))) (stepA (stepC (enterC (Int.ofNat ((65536 : Nat) + (1 : Nat))) (Int.ofNat ((4 : Nat) + (1 : Nat)))))
    (stepA (enterC (Int.ofNat ((65536 : Nat) + (1 : Nat))) (Int.ofNat ((4 : Nat) + (1 : Nat)))) ((Ar.new (Int.toNat (99 : Int))).lay (List.replicate 28 0) v)))).rd (65537 : Int) (21 :
    Int)) : Int) == (1 : Int)) = true ∧ true = true ∧ ((↑((stepA (stepC (stepC (cntNew (Int.ofNat ((65536 : Nat) + (1 : Nat))).toNat (Int.ofNat ((4 : Nat) + (1 : Nat))).toNat (1 : Int)
    (3 : Int) (18446744073709551615 : Nat)))) (stepA (stepC (cntNew (Int.ofNat ((65536 : Nat) + (1 : Nat))).toNat (Int.ofNat ((4 : Nat) + (1 : Nat))).toNat (1 : Int) (3 : Int)
    (18446744073709551615 : Nat))) (stepA (cntNew (Int.ofNat ((65536 : Nat) + (1 : Nat))).toNat (Int.ofNat ((4 : Nat) + (1 : Nat))).toNat (1 : Int) (3 : Int) (18446744073709551615 :
    Nat)) (stepA (stepC (stepC (enterC (Int.ofNat ((65536 : Nat) + (1 : Nat))) (Int.ofNat ((4 : Nat) + (1 : Nat)))))) (stepA (stepC (enterC (Int.ofNat ((65536 : Nat) + (1 : Nat)))
    (Int.ofNat ((4 : Nat) + (1 : Nat))))) (stepA (enterC (Int.ofNat ((65536 : Nat) + (1 : Nat))) (Int.ofNat ((4 : Nat) + (1 : Nat)))) ((Ar.new (Int.toNat (99 : Int))).lay
    (List.replicate 28 0) v)))).read))).rd (65537 : Int) (21 : Int)) : Int) == (0 : Int)) = true ∧ ((↑((stepA (stepC (stepC (cntNew (Int.ofNat ((65536 : Nat) + (1 : Nat))).toNat
    (Int.ofNat ((4 : Nat) + (1 : Nat))).toNat (1 : Int) (3 : Int) (18446744073709551615 : Nat)))) (stepA (stepC (cntNew (Int.ofNat ((65536 : Nat) + (1 : Nat))).toNat (Int.ofNat ((4 :
    Nat) + (1 : Nat))).toNat (1 : Int) (3 : Int) (18446744073709551615 : Nat))) (stepA (cntNew (Int.ofNat ((65536 : Nat) + (1 : Nat))).toNat (Int.ofNat ((4 : Nat) + (1 : Nat))).toNat (1
    : Int) (3 : Int) (18446744073709551615 : Nat)) (stepA (stepC (stepC (enterC (Int.ofNat ((65536 : Nat) + (1 : Nat))) (Int.ofNat ((4 : Nat) + (1 : Nat)))))) (stepA (stepC (enterC
    (Int.ofNat ((65536 : Nat) + (1 : Nat))) (Int.ofNat ((4 : Nat) + (1 : Nat))))) (stepA (enterC (Int.ofNat ((65536 : Nat) + (1 : Nat))) (Int.ofNat ((4 : Nat) + (1 : Nat)))) ((Ar.new
    (Int.toNat (99 : Int))).lay (List.replicate 28 0) v)))).read))).read.rd (65537 : Int) (26 : Int)) : Int) == (1 : Int)) = true ∧ (wr64 (stepA (stepC (stepC (cntNew (Int.ofNat ((65536
    : Nat) + (1 : Nat))).toNat (Int.ofNat ((4 : Nat) + (1 : Nat))).toNat (1 : Int) (3 : Int) (18446744073709551615 : Nat)))) (stepA (stepC (cntNew (Int.ofNat ((65536 : Nat) + (1 :
    Nat))).toNat (Int.ofNat ((4 : Nat) + (1 : Nat))).toNat (1 : Int) (3 : Int) (18446744073709551615 : Nat))) (stepA (cntNew (Int.ofNat ((65536 : Nat) + (1 : Nat))).toNat (Int.ofNat ((4
    : Nat) + (1 : Nat))).toNat (1 : Int) (3 : Int) (18446744073709551615 : Nat)) (stepA (stepC (stepC (enterC (Int.ofNat ((65536 : Nat) + (1 : Nat))) (Int.ofNat ((4 : Nat) + (1 :
    Nat)))))) (stepA (stepC (enterC (Int.ofNat ((65536 : Nat) + (1 : Nat))) (Int.ofNat ((4 : Nat) + (1 : Nat))))) (stepA (enterC (Int.ofNat ((65536 : Nat) + (1 : Nat))) (Int.ofNat ((4 :
    Nat) + (1 : Nat)))) ((Ar.new (Int.toNat (99 : Int))).lay (List.replicate 28 0) v)))).read))).read.read.faults == (0 : Int)) = true ∧ (tlyZ (stepA (stepC (stepC (cntNew (Int.ofNat
    ((65536 : Nat) + (1 : Nat))).toNat (Int.ofNat ((4 : Nat) + (1 : Nat))).toNat (1 : Int) (3 : Int) (18446744073709551615 : Nat)))) (stepA (stepC (cntNew (Int.ofNat ((65536 : Nat) + (1
    : Nat))).toNat (Int.ofNat ((4 : Nat) + (1 : Nat))).toNat (1 : Int) (3 : Int) (18446744073709551615 : Nat))) (stepA (cntNew (Int.ofNat ((65536 : Nat) + (1 : Nat))).toNat (Int.ofNat
    ((4 : Nat) + (1 : Nat))).toNat (1 : Int) (3 : Int) (18446744073709551615 : Nat)) (stepA (stepC (stepC (enterC (Int.ofNat ((65536 : Nat) + (1 : Nat))) (Int.ofNat ((4 : Nat) + (1 :
    Nat)))))) (stepA (stepC (enterC (Int.ofNat ((65536 : Nat) + (1 : Nat))) (Int.ofNat ((4 : Nat) + (1 : Nat))))) (stepA (enterC (Int.ofNat ((65536 : Nat) + (1 : Nat))) (Int.ofNat ((4 :
    Nat) + (1 : Nat)))) ((Ar.new (Int.toNat (99 : Int))).lay (List.replicate 28 0) v)))).read))).read.read.t (5 : Nat) == (5 : Int)) = true) := by
  kernel_rfl
theorem first12  : callN Try.prog tblF (fun _ _ => false) 100 20 60 [] ⟨[], 0⟩ (ts 20) (fun v _ _ => retTrue v) := by
  rw [first12_vc]
  repeat' first
    | with_reducible apply And.intro
    | with_reducible exact trivial
    | intro _
    | with_reducible exact Eq.refl _
  all_goals first
    | exact of_decide_eq_true (by kernel_rfl)
    | kernel_rfl
    | exact ⟨of_decide_eq_true (by kernel_rfl), of_decide_eq_true (by kernel_rfl), of_decide_eq_true (by kernel_rfl), by kernel_rfl⟩
    | exact ⟨of_decide_eq_true (by kernel_rfl), of_decide_eq_true (by kernel_rfl), of_decide_eq_true (by kernel_rfl), fun _ => ⟨of_decide_eq_true (by kernel_rfl), of_decide_eq_true (by kernel_rfl), of_decide_eq_true (by kernel_rfl), by kernel_rfl⟩⟩
    | exact ⟨of_decide_eq_true (by kernel_rfl), of_decide_eq_true (by kernel_rfl), of_decide_eq_true (by kernel_rfl), fun h => absurd h (of_decide_eq_true (by kernel_rfl))⟩
end Go.Proofs.Ytnfpkadepomjjaa
