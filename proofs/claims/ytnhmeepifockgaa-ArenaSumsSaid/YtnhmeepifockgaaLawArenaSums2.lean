/- ArenaSums: for every capacity and all operations the law returns true and turns nothing. -/
import Derived.Test.YtnhmeepifockgaaLawArenaSums
import Derived.Test.YtnhmeepifockgaaOps3
set_option linter.all false
namespace Go.Proofs.Ytnhmeepifockgaa
open Go Go.RowKit
theorem arenaSums_all (W : World) (c : Int) (a : Option Addr) (len cap : Nat) (hs : 0 < len → a.isSome = true) (hx : ∀ j, j < len → At Try.prog W 169 (addOpt a (j * Try.prog.cellsOf 169))) (hl : len ≤ maxLen) :
    Calls Try.prog 14 #[.int .i64 c, .slice a len cap] W fun e w' => e = .returned (.bool true) ∧ Below W.heap.size W w' := by
  have h2 := law_seen (arenaSums_run W a len cap c (opsOk_at hs hx hl))
  exact h2
end Go.Proofs.Ytnhmeepifockgaa
