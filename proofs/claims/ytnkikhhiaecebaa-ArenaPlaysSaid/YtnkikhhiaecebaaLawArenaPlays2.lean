/- ArenaPlays: for every capacity, all operations and all numbers the law returns true and turns nothing. -/
import Derived.Test.YtnkikhhiaecebaaLawArenaPlays
import Derived.Test.YtnkikhhiaecebaaBaseC
import Derived.Test.YtnkikhhiaecebaaBaseAP7
set_option linter.all false
namespace Go.Proofs.Ytnkikhhiaecebaa
open Go Go.RowKit
theorem arenaPlays_all (W : World) (c : Int) (a : Option Addr) (len cap : Nat) (most : Int) (hs : 0 < len → a.isSome = true) (hx : ∀ j, j < len → At Try.prog W 57 (addOpt a (j * Try.prog.cellsOf 57))) (hl : len ≤ maxLen) :
    Calls Try.prog 3 #[.int .i64 c, .slice a len cap, .int .i64 most] W fun e w' => e = .returned (.bool true) ∧ Below W.heap.size W w' := by
  have h2 := law_grow (arenaPlays_run W a len cap c most (opsOk_at hs hx hl))
  exact h2
end Go.Proofs.Ytnkikhhiaecebaa
