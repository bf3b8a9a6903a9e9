/- ClaimRows: for all numbers and all bytes the law returns true and turns nothing; condition: the slice is read as numbers of one byte. -/
import Derived.Test.YtgiakcepgbpchaaLawClaimRows
set_option linter.all false
namespace Go.Proofs.Ytgiakcepgbpchaa
open Go Go.RowKit
theorem claimRows_all (W : World) (a : Option Addr) (len cap : Nat) (s : Int) (hsome : 0 < len → a.isSome = true) (hseen : ∀ j, j < len → Seen .u8 W (addOpt a j)) (hc : len ≤ cap) (h0 : 0 ≤ s) (h1 : s ≤ 255) :
    Calls Try.prog 8 #[.int .u8 s, .slice a len cap] W fun e w' => e = .returned (.bool true) ∧ Below W.heap.size W w' := by
  obtain ⟨n, rfl⟩ := Int.eq_ofNat_of_zero_le h0
  have h2 := law_seen (claimRows_run W a len cap n ⟨hsome, hseen, by omega, hc⟩)
  exact h2
end Go.Proofs.Ytgiakcepgbpchaa
