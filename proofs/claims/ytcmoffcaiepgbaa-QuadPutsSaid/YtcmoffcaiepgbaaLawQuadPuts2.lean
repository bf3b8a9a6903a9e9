/- QuadPuts: for all words, keys, words to be put the law returns true and turns nothing; condition: the key is one of a byte. -/
import Derived.Test.YtcmoffcaiepgbaaLawQuadPuts
set_option linter.all false
namespace Go.Proofs.Ytcmoffcaiepgbaa
open Go Go.RowKit
theorem quadPuts_all (W : World) (a b c d key w : Int) (hk : 0 ≤ key ∧ key ≤ 255) :
    Calls Try.prog 6 #[.agg #[.int .u64 a, .int .u64 b, .int .u64 c, .int .u64 d], .int .u8 key, .int .u64 w] W fun e w' => e = .returned (.bool true) ∧ Below W.heap.size W w' := by
  have h := law_trueR (quadPuts_run a b c d key w hk trivial) W
  exact h
end Go.Proofs.Ytcmoffcaiepgbaa
