/- HeadBack: for all cursors, versions, entries the law returns true and turns nothing; condition: the words are words. -/
import Derived.Test.YtcmoffcaiepgbaaLawHeadBack
set_option linter.all false
namespace Go.Proofs.Ytcmoffcaiepgbaa
open Go Go.RowKit
theorem headBack_all (W : World) (cursor mp ml qu fr ln se sl slot note next : Int) (h0 : 0 ≤ cursor ∧ cursor ≤ 18446744073709551615) (h1 : 0 ≤ mp ∧ mp ≤ 18446744073709551615) (h2 : 0 ≤ qu ∧ qu ≤ 18446744073709551615) (h3 : 0 ≤ se ∧ se ≤ 18446744073709551615) (h4 : 0 ≤ note ∧ note ≤ 18446744073709551615) (h5 : 0 ≤ next ∧ next ≤ 18446744073709551615) :
    Calls Try.prog 9 #[.int .u64 cursor, .agg #[.int .u64 mp, .int .i64 ml, .int .u64 qu, .int .i64 fr, .int .i64 ln, .int .u64 se, .int .i64 sl], .agg #[.int .i64 slot, .int .u64 note, .int .u64 next]] W fun e w' => e = .returned (.bool true) ∧ Below W.heap.size W w' := by
  have h := law_trueR (headBack_run cursor mp ml qu fr ln se sl slot note next ⟨⟨h0, h1, h2, h3⟩, h4, h5⟩) W
  exact h
end Go.Proofs.Ytcmoffcaiepgbaa
