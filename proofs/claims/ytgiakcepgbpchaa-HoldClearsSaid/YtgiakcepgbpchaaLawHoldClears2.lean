/- HoldClears: for all words and every slot the law returns true and turns nothing; condition: the words are read as numbers. -/
import Derived.Test.YtgiakcepgbpchaaLawHoldClears
set_option linter.all false
namespace Go.Proofs.Ytgiakcepgbpchaa
open Go Go.RowKit
theorem holdClears_all (W : World) (a : Option Addr) (len cap : Nat) (s : Int) (hsome : 0 < len → a.isSome = true) (hseen : ∀ j, j < len → Seen .u64 W (addOpt a j)) (hl : len ≤ maxLen) (h0 : 0 ≤ s) (h1 : s ≤ 255) :
    Calls Try.prog 7 #[.slice a len cap, .int .u8 s] W fun e w' => e = .returned (.bool true) ∧ Below W.heap.size W w' := by
  have h2 := law_seen (holdClears_run W a len cap s ⟨hsome, hseen, ⟨h0, h1⟩, hl⟩)
  exact h2
end Go.Proofs.Ytgiakcepgbpchaa
