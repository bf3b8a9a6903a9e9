/- ClaimFew: for all n and all picks the law returns true and turns nothing; condition: the slice is read as numbers of one byte. -/
import Derived.Test.YtnfpkadepomjjaaLawClaimFew
import Derived.Test.YtnfpkadepomjjaaBaseO
set_option linter.all false
namespace Go.Proofs.Ytnfpkadepomjjaa
open Go Go.RowKit
theorem claimFew_all (W : World) (s : Int) (a : Option Addr) (len cap : Nat) (h0 : 0 ≤ s) (h1 : s ≤ 255) (hs : 0 < len → a.isSome = true) (hx : ∀ j, j < len → Seen .u8 W (addOpt a j)) :
    Calls Try.prog 6 #[.int .u8 s, .slice a len cap] W fun e w' => e = .returned (.bool true) ∧ Below W.heap.size W w' := by
  obtain ⟨n, rfl⟩ := Int.eq_ofNat_of_zero_le h0
  have h2 := law_seen (claimFew_run W n a len cap ⟨by omega, hs, hx⟩)
  exact h2
end Go.Proofs.Ytnfpkadepomjjaa
