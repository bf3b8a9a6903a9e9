/- Layer 13's first: a closed run over contracts. -/
import Derived.Test.YtnfpkadepomjjaaFst13
import Derived.Test.YtnfpkadepomjjaaBaseSeg
set_option linter.all false
namespace Go.Proofs.Ytnfpkadepomjjaa
open Go Go.RowKit
set_option maxRecDepth 1000000
set_option maxHeartbeats 0
def tblF13 : List (Smry Try.prog XC) := [segsY.lift, segS, rsegS, counterS, slotS, fixedS, colNewX, colStepN, colDoneX.known, colPlacesN, colSegN, stepN.lift, enterX.lift, tallyX.known.lift]
/-- What the executor leaves to be shown of roundelay/roundelaylaw13.first, written out. -/
theorem first13_vc  : (callN Try.prog (tblF13 : List (Smry Try.prog XC)) (fun _ _ => false) 100 20 12 [] ⟨[], 0⟩ (.know) (fun v _ _ => retTrue v)) = (
    ∀ (v : Value) (cap : Nat) (z : Nat → Int) (ad : Option Addr) (ln cp : Nat), SegOk (1 : Nat) (segA [v]) → (1 : Nat) ≤ cap → True ∧ (Nat.le (2 : Nat) (2 : Nat) ∧ (1 : Nat) = (1 : Nat)
    ∧ cap = cap ∧ hsF = hsF ∧ ((1 : Nat) = (1 : Nat) ∧ cap = cap ∧ hsF = hsF ∧ (0 : Nat) < (1 : Nat) ∧ ((1 : Nat) = (1 : Nat) ∧ cap = cap ∧ hsF = hsF ∧ ((∀ (v v_1 v_2 : Value) (cap :
    Nat) (z : Nat → Int) (ad : Option Addr) (ln cp : Nat), SegOk (3 : Nat) (segA [v, v_1, v_2]) → (3 : Nat) ≤ cap → (2 : Nat) < (3 : Nat) ∧ ((0 : Int) ≤ (196611 : Int) ∧ (0 : Int) ≤ (6
    : Int) ∧ (6 : Int) ≤ (254 : Int)) ∧ (0 : Nat) < (3 : Nat) ∧ ((0 : Int) ≤ (65537 : Int) ∧ (0 : Int) ≤ (0 : Int) ∧ (0 : Int) ≤ (254 : Int)) ∧ (2 : Nat) < (3 : Nat) ∧ ((0 : Int) ≤
    (196611 : Int) ∧ (0 : Int) ≤ (4 : Int) ∧ (4 : Int) ≤ (254 : Int)) ∧ True ∧ ∀ (cap_1 : Nat), (3 : Nat) ≤ cap_1 → (Nat.le (2 : Nat) (2 : Nat) ∧ (3 : Nat) = (3 : Nat) ∧ cap = cap ∧ hsF
    = hsF ∧ (3 : Nat) = (3 : Nat) ∧ cap_1 = cap_1 ∧ plF [((65536 : Nat) + (1 : Nat), (0 : Nat)), ((196610 : Nat) + (1 : Nat), (3 : Nat) + (1 : Nat)), ((196610 : Nat) + (1 : Nat), (5 :
    Nat) + (1 : Nat))] = plF [((65536 : Nat) + (1 : Nat), (0 : Nat)), ((196610 : Nat) + (1 : Nat), (3 : Nat) + (1 : Nat)), ((196610 : Nat) + (1 : Nat), (5 : Nat) + (1 : Nat))] ∧ ((0 :
    Int) ≤ (0 : Int) ∧ (0 : Int) < (3 : Int)) ∧ (0 : Nat) < (3 : Nat) ∧ (0 : Nat) < (3 : Nat) ∧ ((0 : Int) ≤ (1 : Int) ∧ (1 : Int) < (3 : Int)) ∧ (1 : Nat) < (3 : Nat) ∧ (2 : Nat) < (3
    : Nat) ∧ ((0 : Int) ≤ (2 : Int) ∧ (2 : Int) < (3 : Int)) ∧ (2 : Nat) < (3 : Nat) ∧ true = true) ∧ True) ∧ True) ∧ True) ∧ True) ∧ True) ∧ True) := by
  kernel_rfl
theorem first13_run  (hc : True) : Run (callN Try.prog (tblF13 : List (Smry Try.prog XC)) (fun _ _ => false) 100 20 12 [] ⟨[], 0⟩ (.know) (fun v _ _ => retTrue v)) := by
  constructor
  rw [first13_vc]
  repeat' first
    | with_reducible apply And.intro
    | with_reducible exact trivial
    | with_reducible exact Eq.refl _
    | exact (Nat.le.refl : Nat.le 2 2)
    | omega
    | (refine fun (K : KO XC) => ?_; simp only [eq_self, true_and, and_true, imp_self, implies_true]; done)
    | (refine fun (K : KO XC) => ?_; simp only [eq_self, true_and, and_true, imp_self, implies_true]; exact id)
    | intro _
end Go.Proofs.Ytnfpkadepomjjaa
