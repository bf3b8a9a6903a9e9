/- CollectFinds: for all slices of bytes the law returns true and turns nothing; condition: the slices are read as numbers of one byte. -/
import Derived.Test.YtnfpkadepomjjaaLawCollectFinds
import Derived.Test.YtnfpkadepomjjaaBaseO
set_option linter.all false
namespace Go.Proofs.Ytnfpkadepomjjaa
open Go Go.RowKit
theorem collectFinds_all (W : World) (a : Option Addr) (len cap : Nat) (pa : Option Addr) (plen pcap : Nat) (hs : 0 < len → a.isSome = true) (hx : ∀ j, j < len → Seen .u8 W (addOpt a j)) (hps : 0 < plen → pa.isSome = true) (hpx : ∀ j, j < plen → Seen .u8 W (addOpt pa j)) :
    Calls Try.prog 3 #[.slice a len cap, .slice pa plen pcap] W fun e w' => e = .returned (.bool true) ∧ Below W.heap.size W w' := by
  have h2 := law_seen (collectFinds_run W a len cap pa plen pcap ⟨hs, hx, hps, hpx⟩)
  exact h2
end Go.Proofs.Ytnfpkadepomjjaa
