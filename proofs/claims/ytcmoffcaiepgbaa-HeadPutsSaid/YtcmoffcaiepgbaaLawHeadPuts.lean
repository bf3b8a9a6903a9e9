/- HeadPuts: for all cursors, versions, entries the law returns true and turns nothing; condition: the numbers lie within their kinds. -/
import Derived.Test.YtcmoffcaiepgbaaBaseF
import Derived.Test.YtcmoffcaiepgbaaBaseG
set_option linter.all false
namespace Go.Proofs.Ytcmoffcaiepgbaa
open Go Go.RowKit
set_option maxRecDepth 1000000
set_option maxHeartbeats 0
def tblH9 : List (Smry Try.prog XE) := [firstS 34 (fun W => by have h := law_trueR first09 W; exact h), hwordsS, rwordsS, hentwS, rentwS]
/-- What the executor leaves to be shown of roundelay/roundelaylaw09.HeadPuts, written out. -/
theorem headPuts_vc (cursor mp ml qu fr ln se sl slot note next : Int) : (callN Try.prog (tblH9 : List (Smry Try.prog XE)) (fun _ _ => false) 100 20 7 [.c (.int false .u64 cursor), .agg [.int false .u64 mp, .int false .i64 ml, .int false .u64 qu, .int false .i64 fr, .int false .i64 ln, .int false .u64 se, .int false .i64 sl], .agg [.int false .i64 slot, .int false .u64 note, .int false .u64 next]] ⟨[], 0⟩ (.nil) (fun v _ _ => retTrue v)) = (
    (((0 : Int) ≤ cursor ∧ cursor ≤ (18446744073709551615 : Int)) ∧ ((0 : Int) ≤ mp ∧ mp ≤ (18446744073709551615 : Int)) ∧ ((0 : Int) ≤ qu ∧ qu ≤ (18446744073709551615 : Int)) ∧ (0 :
    Int) ≤ se ∧ se ≤ (18446744073709551615 : Int)) ∧ (∀ (z : Un), headB cursor mp ml qu fr ln se sl = false → (((0 : Int) ≤ cursor ∧ cursor ≤ (18446744073709551615 : Int)) ∧ ((0 : Int)
    ≤ mp ∧ mp ≤ (18446744073709551615 : Int)) ∧ ((0 : Int) ≤ qu ∧ qu ≤ (18446744073709551615 : Int)) ∧ (0 : Int) ≤ se ∧ se ≤ (18446744073709551615 : Int)) ∧ (∀ (z : Un), headB cursor mp
    ml qu fr ln se sl = false → (((0 : Int) ≤ note ∧ note ≤ (18446744073709551615 : Int)) ∧ (0 : Int) ≤ next ∧ next ≤ (18446744073709551615 : Int)) ∧ (∀ (z : Un), entB slot note next =
    false → (((0 : Int) ≤ note ∧ note ≤ (18446744073709551615 : Int)) ∧ (0 : Int) ≤ next ∧ next ≤ (18446744073709551615 : Int)) ∧ (∀ (z : Un), entB slot note next = false → true = true)
    ∧ (∀ (z : Un), entB slot note next = true → false = true) ∧ True) ∧ (∀ (z : Un), entB slot note next = true → (((0 : Int) ≤ note ∧ note ≤ (18446744073709551615 : Int)) ∧ (0 : Int) ≤
    next ∧ next ≤ (18446744073709551615 : Int)) ∧ (∀ (z : Un), entB slot note next = false → false = true) ∧ (∀ (z : Un), entB slot note next = true → ((slot != slot) = true → false =
    true) ∧ ((slot != slot) = false → ((note != note) = true → false = true) ∧ ((note != note) = false → ((next != next) = true → false = true) ∧ ((next != next) = false → true =
    true)))) ∧ True) ∧ True) ∧ (∀ (z : Un), headB cursor mp ml qu fr ln se sl = true → (((0 : Int) ≤ note ∧ note ≤ (18446744073709551615 : Int)) ∧ (0 : Int) ≤ next ∧ next ≤
    (18446744073709551615 : Int)) ∧ (∀ (z : Un), entB slot note next = false → (((0 : Int) ≤ note ∧ note ≤ (18446744073709551615 : Int)) ∧ (0 : Int) ≤ next ∧ next ≤
    (18446744073709551615 : Int)) ∧ (∀ (z : Un), entB slot note next = false → false = true) ∧ (∀ (z : Un), entB slot note next = true → false = true) ∧ True) ∧ (∀ (z : Un), entB slot
    note next = true → (((0 : Int) ≤ note ∧ note ≤ (18446744073709551615 : Int)) ∧ (0 : Int) ≤ next ∧ next ≤ (18446744073709551615 : Int)) ∧ (∀ (z : Un), entB slot note next = false →
    false = true) ∧ (∀ (z : Un), entB slot note next = true → false = true) ∧ True) ∧ True) ∧ True) ∧ (∀ (z : Un), headB cursor mp ml qu fr ln se sl = true → (((0 : Int) ≤ cursor ∧
    cursor ≤ (18446744073709551615 : Int)) ∧ ((0 : Int) ≤ mp ∧ mp ≤ (18446744073709551615 : Int)) ∧ ((0 : Int) ≤ qu ∧ qu ≤ (18446744073709551615 : Int)) ∧ (0 : Int) ≤ se ∧ se ≤
    (18446744073709551615 : Int)) ∧ (∀ (z : Un), headB cursor mp ml qu fr ln se sl = false → (((0 : Int) ≤ note ∧ note ≤ (18446744073709551615 : Int)) ∧ (0 : Int) ≤ next ∧ next ≤
    (18446744073709551615 : Int)) ∧ (∀ (z : Un), entB slot note next = false → (((0 : Int) ≤ note ∧ note ≤ (18446744073709551615 : Int)) ∧ (0 : Int) ≤ next ∧ next ≤
    (18446744073709551615 : Int)) ∧ (∀ (z : Un), entB slot note next = false → false = true) ∧ (∀ (z : Un), entB slot note next = true → false = true) ∧ True) ∧ (∀ (z : Un), entB slot
    note next = true → (((0 : Int) ≤ note ∧ note ≤ (18446744073709551615 : Int)) ∧ (0 : Int) ≤ next ∧ next ≤ (18446744073709551615 : Int)) ∧ (∀ (z : Un), entB slot note next = false →
    false = true) ∧ (∀ (z : Un), entB slot note next = true → false = true) ∧ True) ∧ True) ∧ (∀ (z : Un), headB cursor mp ml qu fr ln se sl = true → (((0 : Int) ≤ note ∧ note ≤
    (18446744073709551615 : Int)) ∧ (0 : Int) ≤ next ∧ next ≤ (18446744073709551615 : Int)) ∧ (∀ (z : Un), entB slot note next = false → (((0 : Int) ≤ note ∧ note ≤
    (18446744073709551615 : Int)) ∧ (0 : Int) ≤ next ∧ next ≤ (18446744073709551615 : Int)) ∧ (∀ (z : Un), entB slot note next = false → ((cursor != cursor) = true → false = true) ∧
    ((cursor != cursor) = false → ((mp != mp) = true → false = true) ∧ ((mp != mp) = false → ((ml != ml) = true → false = true) ∧ ((ml != ml) = false → ((qu != qu) = true → false =
    true) ∧ ((qu != qu) = false → ((fr != fr) = true → false = true) ∧ ((fr != fr) = false → ((ln != ln) = true → false = true) ∧ ((ln != ln) = false → ((se != se) = true → false =
    true) ∧ ((se != se) = false → ((sl != sl) = true → false = true) ∧ ((sl != sl) = false → true = true))))))))) ∧ (∀ (z : Un), entB slot note next = true → ((cursor != cursor) = true
    → false = true) ∧ ((cursor != cursor) = false → ((mp != mp) = true → false = true) ∧ ((mp != mp) = false → ((ml != ml) = true → false = true) ∧ ((ml != ml) = false → ((qu != qu) =
    true → false = true) ∧ ((qu != qu) = false → ((fr != fr) = true → false = true) ∧ ((fr != fr) = false → ((ln != ln) = true → false = true) ∧ ((ln != ln) = false → ((se != se) = true
    → false = true) ∧ ((se != se) = false → ((sl != sl) = true → false = true) ∧ ((sl != sl) = false → false = true))))))))) ∧ True) ∧ (∀ (z : Un), entB slot note next = true → (((0 :
    Int) ≤ note ∧ note ≤ (18446744073709551615 : Int)) ∧ (0 : Int) ≤ next ∧ next ≤ (18446744073709551615 : Int)) ∧ (∀ (z : Un), entB slot note next = false → ((cursor != cursor) = true
    → false = true) ∧ ((cursor != cursor) = false → ((mp != mp) = true → false = true) ∧ ((mp != mp) = false → ((ml != ml) = true → false = true) ∧ ((ml != ml) = false → ((qu != qu) =
    true → false = true) ∧ ((qu != qu) = false → ((fr != fr) = true → false = true) ∧ ((fr != fr) = false → ((ln != ln) = true → false = true) ∧ ((ln != ln) = false → ((se != se) = true
    → false = true) ∧ ((se != se) = false → ((sl != sl) = true → false = true) ∧ ((sl != sl) = false → false = true))))))))) ∧ (∀ (z : Un), entB slot note next = true → ((cursor !=
    cursor) = true → false = true) ∧ ((cursor != cursor) = false → ((mp != mp) = true → false = true) ∧ ((mp != mp) = false → ((ml != ml) = true → false = true) ∧ ((ml != ml) = false →
    ((qu != qu) = true → false = true) ∧ ((qu != qu) = false → ((fr != fr) = true → false = true) ∧ ((fr != fr) = false → ((ln != ln) = true → false = true) ∧ ((ln != ln) = false → ((se
    != se) = true → false = true) ∧ ((se != se) = false → ((sl != sl) = true → false = true) ∧ ((sl != sl) = false → ((slot != slot) = true → false = true) ∧ ((slot != slot) = false →
    ((note != note) = true → false = true) ∧ ((note != note) = false → ((next != next) = true → false = true) ∧ ((next != next) = false → true = true)))))))))))) ∧ True) ∧ True) ∧ True)
    ∧ True) := by
  kernel_rfl
theorem headPuts_run (cursor mp ml qu fr ln se sl slot note next : Int) (hc : ((0 ≤ cursor ∧ cursor ≤ 18446744073709551615) ∧ (0 ≤ mp ∧ mp ≤ 18446744073709551615) ∧ (0 ≤ qu ∧ qu ≤ 18446744073709551615) ∧ (0 ≤ se ∧ se ≤ 18446744073709551615)) ∧ ((0 ≤ note ∧ note ≤ 18446744073709551615) ∧ (0 ≤ next ∧ next ≤ 18446744073709551615))) : Run (callN Try.prog (tblH9 : List (Smry Try.prog XE)) (fun _ _ => false) 100 20 7 [.c (.int false .u64 cursor), .agg [.int false .u64 mp, .int false .i64 ml, .int false .u64 qu, .int false .i64 fr, .int false .i64 ln, .int false .u64 se, .int false .i64 sl], .agg [.int false .i64 slot, .int false .u64 note, .int false .u64 next]] ⟨[], 0⟩ (.nil) (fun v _ _ => retTrue v)) := by
  constructor
  rw [headPuts_vc]
  obtain ⟨⟨h0, h1, h2, h3⟩, h4, h5⟩ := hc
  repeat' first
    | with_reducible apply And.intro
    | with_reducible exact trivial
    | with_reducible assumption
    | with_reducible exact Eq.refl _
    | intro hh
    | with_reducible exact Eq.refl _
  all_goals first
    | omega
    | (simp_all; done)
    | skip
end Go.Proofs.Ytcmoffcaiepgbaa
