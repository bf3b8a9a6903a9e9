/- DraftShares: for all versions and operations the law returns true and turns nothing; condition: the numbers lie within their kinds. -/
import Derived.Test.YtnkikhhiaecebaaBaseDs1
import Derived.Test.YtnkikhhiaecebaaLawDS1
import Derived.Test.YtnkikhhiaecebaaLawDS5
import Derived.Test.YtnkikhhiaecebaaLawDS6
import Derived.Test.YtnkikhhiaecebaaLawDS10
import Derived.Test.YtnkikhhiaecebaaBaseDs2
import Derived.Test.YtnkikhhiaecebaaLawDS14
set_option linter.all false
namespace Go.Proofs.Ytnkikhhiaecebaa
open Go Go.RowKit
theorem draftShares_all (W : World) (a b c d e f g o k p q : Int) (h : DsOk a b c d e f g) :
    Calls Try.prog 4 #[.agg #[.int .u64 a, .int .i64 b, .int .u64 c, .int .i64 d, .int .i64 e, .int .u64 f, .int .i64 g], .agg #[.int .i64 o, .int .i64 k, .int .i64 p, .int .i64 q]] W fun e w' => e = .returned (.bool true) ∧ Below W.heap.size W w' := by
  by_cases hr : RightO o k p q
  · have hk : 0 ≤ k ∧ k ≤ 255 := ⟨hr.k0, hr.k1⟩
    have hp : 0 ≤ p ∧ p ≤ 1023 := ⟨hr.a0, hr.a1⟩
    have hq : 0 ≤ q ∧ q ≤ 1023 := ⟨hr.b0, hr.b1⟩
    have hc0 := hr.c0
    have hc1 := hr.c1
    rcases c15 hc0 (by omega) with rfl | rfl | rfl | rfl | rfl | rfl | rfl | rfl | rfl | rfl | rfl | rfl | rfl | rfl | rfl
    · exact law_trueO (ds0_run a b c d e f g k p q hk hp hq h) W
    · exact law_trueO (ds1_run a b c d e f g k p q hk hp hq h) W
    · exact law_trueO (ds2_run a b c d e f g k p q hk hp hq h) W
    · exact law_trueO (ds3_run a b c d e f g k p q hk hp hq h) W
    · exact law_trueO (ds4_run a b c d e f g k p q hk hp hq h) W
    · exact law_trueO (ds5_run a b c d e f g k p q hk hp hq h) W
    · exact law_trueO (ds6_run a b c d e f g k p q hk hp hq h) W
    · exact law_trueO (ds7_run a b c d e f g k p q hk hp hq h) W
    · exact law_trueO (ds8_run a b c d e f g k p q hk hp hq h) W
    · exact law_trueO (ds9_run a b c d e f g k p q hk hp hq h) W
    · exact law_trueO (ds10_run a b c d e f g k p q hk hp hq h) W
    · exact law_trueO (ds11_run a b c d e f g k p q hk hp hq h) W
    · exact law_trueO (ds12_run a b c d e f g k p q hk hp hq h) W
    · exact law_trueO (ds13_run a b c d e f g k p q hk hp hq h) W
    · exact law_trueO (ds14_run a b c d e f g k p q hk hp hq h) W
  · exact law_trueO (dsN_run a b c d e f g o k p q ⟨h, hr⟩) W
end Go.Proofs.Ytnkikhhiaecebaa
