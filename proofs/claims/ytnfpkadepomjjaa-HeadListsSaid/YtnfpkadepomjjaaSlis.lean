/- Slices of words, as they are read: what a law is handed. -/
import Derived.Test.YtnfpkadepomjjaaBaseDoc
import Derived.Test.YtnfpkadepomjjaaBaseO
set_option linter.all false
namespace Go.Proofs.Ytnfpkadepomjjaa
open Go Go.RowKit
theorem slisOk_at {W : World} {a : Option Addr} {len : Nat} (hs : 0 < len → a.isSome = true) (hx : ∀ j, j < len → At Try.prog W 32 (addOpt a (j * Try.prog.cellsOf 32))) (hl : len ≤ maxLen) : SlisOk W a len := by
  have e0 : Try.prog.cellsOf 32 = 1 := by kernel_rfl
  have hw : ∀ j, j < len → At Try.prog W 32 (addOpt a j) := fun j hj => by
    have h := hx j hj
    rw [e0, Nat.mul_one] at h
    exact h
  have h2 : maxLen ≤ 9223372036854775807 := by unfold maxLen; decide
  refine ⟨hs, fun j hj => (at_slice Try.underlying32 (hw j hj)).1, fun j hj => ?_, fun j hj i hi => ?_, by omega⟩
  · have h1 := at_slen Try.underlying32 (hw j hj)
    exact Nat.le_trans h1 h2
  · have h1 := (at_slice Try.underlying32 (hw j hj)).2.2 i hi
    have e1 : Try.prog.cellsOf 25 = 1 := by kernel_rfl
    rw [e1, Nat.mul_one] at h1
    exact at_one (k := .int .u64) 8 (by kernel_rfl) h1
end Go.Proofs.Ytnfpkadepomjjaa
