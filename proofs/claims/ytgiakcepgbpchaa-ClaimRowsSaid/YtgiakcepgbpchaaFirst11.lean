/- The statements of layer 11: first answers true, by the executor over arenas that are known. -/
import Derived.Test.YtgiakcepgbpchaaSumGet
import Derived.Test.YtgiakcepgbpchaaBaseC
set_option linter.all false
namespace Go.Proofs.Ytgiakcepgbpchaa
open Go
set_option maxRecDepth 1000000
set_option maxHeartbeats 0
/-- What the executor leaves to be shown, written out. -/
theorem first11_vc  : (callN Try.prog tblPU (fun _ n => Nat.beq n 999999) 100 20 52 [] ⟨[], 0⟩ .nil (fun v _ _ => retTrue v)) = (
    ((((((((((((((((((((((((((((((true = true ∧ True) ∧ True) ∧ True) ∧ True) ∧ True) ∧ True) ∧ True) ∧ True) ∧ True) ∧ True) ∧ True) ∧ True) ∧ True) ∧ True) ∧ True) ∧ True) ∧ True) ∧
    True) ∧ True) ∧ True) ∧ True) ∧ True) ∧ True) ∧ True) ∧ True) ∧ True) ∧ True) ∧ True) ∧ True) ∧ True) ∧ True) := by
  kernel_rfl
theorem first11  : Run (callN Try.prog tblPU (fun _ n => Nat.beq n 999999) 100 20 52 [] ⟨[], 0⟩ .nil (fun v _ _ => retTrue v)) := by
  constructor
  rw [first11_vc]
  repeat' first
    | with_reducible apply And.intro
    | with_reducible exact trivial
    | with_reducible exact fun (h : true = false) => Bool.noConfusion h
    | with_reducible exact fun (h : false = true) => Bool.noConfusion h
    | with_reducible exact fun _ h => h
    | intro _
    | with_reducible exact Eq.refl _
    | decide
end Go.Proofs.Ytgiakcepgbpchaa
