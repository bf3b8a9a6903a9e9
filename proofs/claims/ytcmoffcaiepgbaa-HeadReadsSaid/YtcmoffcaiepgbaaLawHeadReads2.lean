/- HeadReads: for all words the law returns true and turns nothing; condition: the slice is read as numbers. -/
import Derived.Test.YtcmoffcaiepgbaaLawHeadReads
import Derived.Test.YtcmoffcaiepgbaaBaseO
set_option linter.all false
namespace Go.Proofs.Ytcmoffcaiepgbaa
open Go Go.RowKit
theorem headReads_all (W : World) (a : Option Addr) (len cap : Nat) (hs : 0 < len → a.isSome = true) (hx : ∀ j, j < len → At Try.prog W 25 (addOpt a (j * Try.prog.cellsOf 25))) :
    Calls Try.prog 8 #[.slice a len cap] W fun e w' => e = .returned (.bool true) ∧ Below W.heap.size W w' := by
  have ec : Try.prog.cellsOf 25 = 1 := by kernel_rfl
  have h := law_seen (headReads_run W a len cap ⟨hs, fun j hj => by
    have h1 := at_one (k := .int .u64) 8 (by kernel_rfl) (hx j hj)
    rw [ec, Nat.mul_one] at h1
    exact h1⟩)
  exact h
end Go.Proofs.Ytcmoffcaiepgbaa
