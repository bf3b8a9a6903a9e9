/- HoldWins: for all roots and picks the law returns true and turns nothing; condition: the slices are read as numbers. -/
import Derived.Test.YtgiakcepgbpchaaHoldG
import Derived.Test.YtgiakcepgbpchaaHoldF
namespace Go.Proofs.Ytgiakcepgbpchaa
open Go Go.RowKit
theorem holdWins_all (W : World) (a0 a1 : Option Addr) (l0 c0 l1 c1 : Nat) (fetch : Bool) (hs0 : 0 < l0 → a0.isSome = true) (hx0 : ∀ j, j < l0 → Seen .u64 W (addOpt a0 j)) (hs1 : 0 < l1 → a1.isSome = true) (hx1 : ∀ j, j < l1 → Seen .u8 W (addOpt a1 j)) :
    Calls Try.prog 4 #[.slice a0 l0 c0, .slice a1 l1 c1, .bool fetch] W fun e w' => e = .returned (.bool true) ∧ Below W.heap.size W w' := by
  cases fetch with
  | false =>
    have h2 := law_seen (holdG W a0 a1 l0 c0 l1 c1 hs0 hx0 hs1 hx1)
    exact h2
  | true =>
    have h2 := law_seen (holdF W a0 a1 l0 c0 l1 c1 hs0 hx0 hs1 hx1)
    exact h2
end Go.Proofs.Ytgiakcepgbpchaa
