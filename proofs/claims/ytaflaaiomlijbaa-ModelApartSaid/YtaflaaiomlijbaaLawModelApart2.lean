/- ModelApart: for all steps and all pairs of ops the law returns true and turns nothing. -/
import Derived.Test.YtaflaaiomlijbaaLawModelApart
import Derived.Test.YtaflaaiomlijbaaOpenSli
set_option linter.all false
namespace Go.Proofs.Ytaflaaiomlijbaa
open Go Go.RowKit
theorem step_cells : Try.prog.cellsOf 85 = 7 := by kernel_rfl
theorem step_flat : flatT Try.prog 8 85 = some stepK := by kernel_rfl
theorem step_seen {W : World} {a : Option Addr} {len : Nat} (hx : ∀ j, j < len → At Try.prog W 85 (addOpt a (j * Try.prog.cellsOf 85))) : ∀ j, j < len → SeenL W (addOpt a (j * 7)) 0 stepK := fun j hj => by
  have h := hx j hj
  rw [step_cells] at h
  exact at_flat 8 step_flat h
theorem modelApart_all (W : World) (a : Option Addr) (len cap : Nat) (c k x y c' k' x' y' : Int) (hs : 0 < len → a.isSome = true) (hx : ∀ j, j < len → At Try.prog W 85 (addOpt a (j * Try.prog.cellsOf 85))) (hl : len ≤ maxLen) :
    Calls Try.prog 8 #[.slice a len cap, .agg #[.int .i64 c, .int .i64 k, .int .i64 x, .int .i64 y], .agg #[.int .i64 c', .int .i64 k', .int .i64 x', .int .i64 y']] W fun e w' => e = .returned (.bool true) ∧ Below W.heap.size W w' := by
  have h2 := law_seen (mapart_run W a len cap c k x y c' k' x' y' ⟨hs, step_seen hx, hl⟩)
  exact h2
end Go.Proofs.Ytaflaaiomlijbaa
