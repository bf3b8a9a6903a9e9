/- Operations upon arenas, as they are read: a slice of them is read as such. -/
import Derived.Test.YtnkikhhiaecebaaBaseP3
import Derived.Test.YtnkikhhiaecebaaBaseO
set_option linter.all false
namespace Go.Proofs.Ytnkikhhiaecebaa
open Go Go.RowKit
theorem op3_cells : Try.prog.cellsOf 57 = 9 := by kernel_rfl
theorem op3_flat : flatT Try.prog 8 57 = some opK := by kernel_rfl
theorem opsOk_at {W : World} {a : Option Addr} {len : Nat} (hs : 0 < len → a.isSome = true) (hx : ∀ j, j < len → At Try.prog W 57 (addOpt a (j * Try.prog.cellsOf 57))) (hl : len ≤ maxLen) : OpsOk W a len := by
  have hw : ∀ j, j < len → At Try.prog W 42 (addOpt (addOpt a (j * 9)) 3) := fun j hj => by
    have h := hx j hj
    rw [op3_cells] at h
    exact at_field Try.underlying57 (i := 3) (f := _) rfl h
  refine ⟨hs, fun j hj => ?_, fun j hj => ?_, fun j hj i hi => ?_, ?_⟩
  · have h := hx j hj
    rw [op3_cells] at h
    exact at_flat 8 op3_flat h
  · have h1 := at_slen Try.underlying42 (hw j hj)
    have h2 : maxLen ≤ 9223372036854775807 := by unfold maxLen; decide
    exact Nat.le_trans h1 h2
  · have h1 := (at_slice Try.underlying42 (hw j hj)).2.2 i hi
    have e1 : Try.prog.cellsOf 29 = 1 := by kernel_rfl
    rw [e1, Nat.mul_one] at h1
    exact at_one (k := .int .u64) 8 (by kernel_rfl) h1
  · have h2 : maxLen ≤ 9223372036854775807 := by unfold maxLen; decide
    omega
end Go.Proofs.Ytnkikhhiaecebaa
