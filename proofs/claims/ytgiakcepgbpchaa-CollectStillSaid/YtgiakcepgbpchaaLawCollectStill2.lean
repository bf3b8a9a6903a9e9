/- CollectStill: for every slice of bytes the law returns true and turns nothing; condition: the slice is read as numbers of one byte. -/
import Derived.Test.YtgiakcepgbpchaaLawCollectStill
set_option linter.all false
namespace Go.Proofs.Ytgiakcepgbpchaa
open Go Go.RowKit
theorem collectStill_all (W : World) (a : Option Addr) (len cap : Nat) (hsome : 0 < len → a.isSome = true) (hseen : ∀ j, j < len → Seen .u8 W (addOpt a j)) :
    Calls Try.prog 6 #[.slice a len cap] W fun e w' => e = .returned (.bool true) ∧ Below W.heap.size W w' := by
  have h2 := law_seen (collStill_run W a len cap ⟨hsome, hseen⟩)
  exact h2
end Go.Proofs.Ytgiakcepgbpchaa
