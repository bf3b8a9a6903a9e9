/- From a run of the executor at some memory to what a call does, whatever else there is. No program in sight. -/
import Derived.Test.YtnfpkadepomjjaaBaseC
set_option linter.all false
namespace Go.Proofs.Ytnfpkadepomjjaa
open Go Go.RowKit
section
variable {E : EXT}
theorem frame_calls {g : FuncId} {args : List SV} {T : List (Smry Try.prog E)} {wr : FuncId → Nat → Bool} {LF k : Nat} {s : Scr E} {l l' : SH E} {res : SV}
    (run : Run (callN Try.prog T wr LF k g args ⟨l, 100⟩ s fun v m _ => outM res l' v m)) {ν : Nat → Nat} {w w0 : World} {R : Assn} (H : Sat w (l.den ν * R)) (HK : Kept w0 w) :
    Calls Try.prog g (args.map (SV.den ν)).toArray w fun e w' => ∃ κ, Agree 10 ν κ ∧ e = .returned (res.den κ) ∧ Sat w' (l'.den κ * R) ∧ Kept w0 w' := by
  refine (callN_ok namesOk mixed T wr LF k g args ⟨l, 100⟩ s _ run.out ν w R w0 H HK).mono ?_
  rintro e w' ⟨v, m', s', ξ, ho, ag, _, he, hs, hk⟩
  obtain ⟨κ, agk, hv, hs⟩ := outM_sound ho hs
  exact ⟨κ, fun i hi => (agk i hi).trans (ag i (Nat.lt_of_lt_of_le hi (by show 10 ≤ 100; decide))), by rw [he, hv], hs, hk⟩
end
end Go.Proofs.Ytnfpkadepomjjaa
