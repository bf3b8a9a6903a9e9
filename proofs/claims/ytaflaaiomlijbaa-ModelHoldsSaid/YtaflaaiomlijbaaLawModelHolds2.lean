/- ModelHolds: for all steps the law returns true and turns nothing; condition: the steps are read as what they are. -/
import Derived.Test.YtaflaaiomlijbaaLawModelHolds
import Derived.Test.YtaflaaiomlijbaaOpenSli
set_option linter.all false
namespace Go.Proofs.Ytaflaaiomlijbaa
open Go Go.RowKit
theorem step_cells : Try.prog.cellsOf 85 = 7 := by kernel_rfl
theorem step_flat : flatT Try.prog 8 85 = some stepK := by kernel_rfl
theorem step_seen {W : World} {a : Option Addr} {len : Nat} (hx : ∀ j, j < len → At Try.prog W 85 (addOpt a (j * Try.prog.cellsOf 85))) : ∀ j, j < len → SeenL W (addOpt a (j * 7)) 0 stepK := fun j hj => by
  have h := hx j hj
  rw [step_cells] at h
  exact at_flat 8 step_flat h
theorem modelHolds_all (W : World) (a : Option Addr) (len cap : Nat) (hs : 0 < len → a.isSome = true) (hx : ∀ j, j < len → At Try.prog W 85 (addOpt a (j * Try.prog.cellsOf 85))) (hl : len ≤ maxLen) :
    Calls Try.prog 7 #[.slice a len cap] W fun e w' => e = .returned (.bool true) ∧ Below W.heap.size W w' := by
  have h2 := law_seen (mholds_run W a len cap ⟨hs, step_seen hx, hl⟩)
  exact h2
end Go.Proofs.Ytaflaaiomlijbaa
