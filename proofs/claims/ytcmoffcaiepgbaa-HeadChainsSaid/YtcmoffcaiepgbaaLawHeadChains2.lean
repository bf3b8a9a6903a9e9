/- HeadChains: for all entries the law returns true and turns nothing; condition: the entries are read as numbers. -/
import Derived.Test.YtcmoffcaiepgbaaLawHeadChains
import Derived.Test.YtcmoffcaiepgbaaBaseO
set_option linter.all false
namespace Go.Proofs.Ytcmoffcaiepgbaa
open Go Go.RowKit
theorem headChains_all (W : World) (a : Option Addr) (len cap : Nat) (hs : 0 < len → a.isSome = true) (hx : ∀ j, j < len → At Try.prog W 77 (addOpt a (j * Try.prog.cellsOf 77))) :
    Calls Try.prog 10 #[.slice a len cap] W fun e w' => e = .returned (.bool true) ∧ Below W.heap.size W w' := by
  have ec : Try.prog.cellsOf 77 = 3 := by kernel_rfl
  have h := law_seen (headChains_run W a len cap ⟨hs, fun j hj => by
    have h1 := at_flat (ks := [.int .i64, .int .u64, .int .u64]) 8 (by kernel_rfl) (hx j hj)
    rw [ec] at h1
    exact ⟨h1.1, h1.2.1, h1.2.2.1⟩⟩)
  exact h
end Go.Proofs.Ytcmoffcaiepgbaa
