/- QuadTells: for all words, keys, levels the law returns true and turns nothing; no condition. -/
import Derived.Test.YtcmoffcaiepgbaaLawQuadTells
set_option linter.all false
namespace Go.Proofs.Ytcmoffcaiepgbaa
open Go Go.RowKit
theorem quadTells_all (W : World) (a b c d key level w : Int) :
    Calls Try.prog 4 #[.agg #[.int .u64 a, .int .u64 b, .int .u64 c, .int .u64 d, .int .i64 key, .int .i64 level, .int .u64 w]] W fun e w' => e = .returned (.bool true) ∧ Below W.heap.size W w' := by
  have h := law_trueR (quadTells_run a b c d key level w trivial) W
  exact h
end Go.Proofs.Ytcmoffcaiepgbaa
