/- What small functions of package quad hand back, where no abstract objects are. -/
import Derived.Test.YtnkikhhiaecebaaMdlR
set_option linter.all false
namespace Go.Proofs.Ytnkikhhiaecebaa
open Go Go.RowKit
set_option maxRecDepth 1000000
set_option maxHeartbeats 0
/-- A key's digit. -/
def dkF (key level : Int) : Int := if (key < 0 ∨ 255 < key) ∨ (level < 0 ∨ 4 ≤ level) then 0 else key / ((2 ^ (2 * (3 - level)).toNat : Nat) : Int) % 4
theorem dkF_bd (key level : Int) : 0 ≤ dkF key level ∧ dkF key level ≤ 3 := by
  unfold dkF; split <;> omega
def dkOuts (key level : Int) : List (Out XN) := [Out.one (.c (.int false .i64 (dkF key level) (.w 0 3 (dkF_bd key level))))]
/-- What the executor leaves to be shown of roundelay/quad.Digit, written out. -/
theorem dk_vc (key level : Int) : (callN Try.prog ([] : List (Smry Try.prog XN)) (fun _ _ => false) 100 20 204 [.c (.int false .i64 key), .c (.int false .i64 level)] ⟨[], 100⟩ (bN 4) (fun v m _ => nthO (dkOuts key level) ((fun _ => 0) v) v m)) = (
    (decide (key < (0 : Int)) = true → ∃ (z : Un), True ∧ dkF key level = (0 : Int) ∧ True) ∧ (decide (key < (0 : Int)) = false → (decide (key > (255 : Int)) = true → ∃ (z : Un), True ∧
    dkF key level = (0 : Int) ∧ True) ∧ (decide (key > (255 : Int)) = false → (decide (level < (0 : Int)) = true → ∃ (z : Un), True ∧ dkF key level = (0 : Int) ∧ True) ∧ (decide (level
    < (0 : Int)) = false → (decide (level ≥ (4 : Int)) = true → ∃ (z : Un), True ∧ dkF key level = (0 : Int) ∧ True) ∧ (decide (level ≥ (4 : Int)) = false → ((-9223372036854775808 :
    Int) ≤ (3 : Int) - level ∧ (3 : Int) - level ≤ (9223372036854775807 : Int)) ∧ ((-9223372036854775808 : Int) ≤ (2 : Int) * ((3 : Int) - level) ∧ (2 : Int) * ((3 : Int) - level) ≤
    (9223372036854775807 : Int)) ∧ ((0 : Int) ≤ (2 : Int) * ((3 : Int) - level) ∧ (2 : Int) * ((3 : Int) - level) ≤ (64 : Int)) ∧ ((0 : Int) ≤ key / (↑((2 : Nat) ^ ((2 : Int) * ((3 :
    Int) - level)).toNat) : Int) ∧ (-9223372036854775808 : Int) ≤ key / (↑((2 : Nat) ^ ((2 : Int) * ((3 : Int) - level)).toNat) : Int) ∧ key / (↑((2 : Nat) ^ ((2 : Int) * ((3 : Int) -
    level)).toNat) : Int) ≤ (9223372036854775807 : Int)) ∧ ∃ (z : Un), True ∧ dkF key level = key / (↑((2 : Nat) ^ ((2 : Int) * ((3 : Int) - level)).toNat) : Int) % (4 : Int) ∧ True))))) := by
  kernel_rfl
theorem dk_run (key level : Int) (hc : True) : Run (callN Try.prog ([] : List (Smry Try.prog XN)) (fun _ _ => false) 100 20 204 [.c (.int false .i64 key), .c (.int false .i64 level)] ⟨[], 100⟩ (bN 4) (fun v m _ => nthO (dkOuts key level) ((fun _ => 0) v) v m)) := by
  constructor
  rw [dk_vc]
  repeat' first
    | with_reducible apply And.intro
    | with_reducible exact trivial
    | (intro h; first | have := of_decide_eq_true h | have := of_decide_eq_false h)
    | with_reducible refine Exists.intro Un.mk ?_
  all_goals first
    | omega
    | (unfold dkF; rw [if_pos (by omega)])
    | (unfold dkF; rw [if_neg (by omega)]; done)
    | exact Int.ediv_nonneg (by omega) (Int.natCast_nonneg _)
    | exact Int.le_trans (by decide) (Int.ediv_nonneg (by omega) (Int.natCast_nonneg _))
    | exact Int.le_trans (Int.ediv_le_self _ (by omega)) (by omega)
    | skip
def dkS : Smry Try.prog XN := outS 204 (fun args => match args with
  | [.c (.int _ .i64 key _), .c (.int _ .i64 level _)] => some ([.c (.int false .i64 key), .c (.int false .i64 level)], True, dkOuts key level)
  | _ => none)
  ⟨(by intro args na c os h ν; split at h <;> first | (cases h; rfl) | cases h), (by intro args na c os h hc; split at h <;> first | (cases h; exact ⟨([] : List (Smry Try.prog XN)), _, _, _, _, _, dk_run _ _ hc⟩) | cases h)⟩
end Go.Proofs.Ytnkikhhiaecebaa
