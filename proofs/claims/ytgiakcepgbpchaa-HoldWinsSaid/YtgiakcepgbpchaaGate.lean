/- From what the executor shows to what a law asks. -/
import Derived.Test.YtgiakcepgbpchaaSymD
import Derived.Test.YtgiakcepgbpchaaProg
namespace Go.Proofs.Ytgiakcepgbpchaa
open Go Go.RowKit

def namesB (P : Program) : Bool := P.funcs.toList.all fun fn => !(fn.body.isSome && (fn.name == "runtime.NumGoroutine"))
theorem namesB_ok {P : Program} (h : namesB P = true) : NamesOk P := fun g fn hg hb => by
  unfold namesB at h
  have := List.all_eq_true.1 h fn (by rw [Array.mem_toList_iff]; exact Array.mem_of_getElem? hg)
  rw [hb] at this
  simpa using this
theorem namesOk : NamesOk Try.prog := namesB_ok (by kernel_rfl)
theorem mixed : Try.prog.follows .mixedOrders = true := by kernel_rfl
/-- What a law answers. -/
def retTrue (v : SV) : Prop := match v with | .c (.boo _ b) => b = true | _ => False
theorem retTrue_den {v : SV} (h : retTrue v) (ν : Nat → Nat) : v.den ν = .bool true := by
  unfold retTrue at h
  split at h
  · subst h; rfl
  · exact h.elim
theorem law_true {E : EXT} {T : List (Smry Try.prog E)} {wr : FuncId → Nat → Bool} {LF k : Nat} {g : FuncId} {args : List SV} {s : Scr E} (h : callN Try.prog T wr LF k g args ⟨[], 0⟩ s fun v _ _ => retTrue v) (W : World) :
    Calls Try.prog g (args.map (SV.den fun _ => 0)).toArray W fun e w' => e = .returned (.bool true) ∧ Below W.heap.size W w' := by
  have H : Sat W (SH.den (fun _ => 0) (⟨[], 0⟩ : Mem E).hp * old W) := by
    simp only [SH.den]
    rw [Assn.one_mul]
    exact Sat.old W
  refine (callN_ok namesOk mixed T wr LF k g args ⟨[], 0⟩ s _ h (fun _ => 0) W (old W) W H (Kept.refl W)).mono ?_
  rintro e w' ⟨v, m', s', μ, hv, _, _, he, hs, hk⟩
  exact ⟨by rw [he, retTrue_den hv], Below.of_old hs hk⟩
end Go.Proofs.Ytgiakcepgbpchaa
