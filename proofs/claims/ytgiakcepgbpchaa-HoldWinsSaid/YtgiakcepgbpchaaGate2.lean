/- From what the executor shows to what a law asks, where the law reads what it is handed. -/
import Derived.Test.YtgiakcepgbpchaaGate
namespace Go.Proofs.Ytgiakcepgbpchaa
open Go Go.RowKit

/-- Something that is shown, behind a name: nothing is to be unfolded. -/
structure Run (p : Prop) : Prop where
  out : p
section
variable {E : EXT}
def retSeen (W : World) (v : SV) (m : Mem E) : Prop := retTrue v ∧ seenOf m.hp = some W
theorem seenOf_den {W : World} {ν : Nat → Nat} : ∀ {h : SH E}, seenOf h = some W → ∃ Q : Assn, h.den ν = Q * old W
  | [], h => by simp [seenOf] at h
  | (n, o) :: h, hs => by
    have next : seenOf h = some W → ∃ Q : Assn, SH.den ν ((n, o) :: h) = Q * old W := fun hs => by
      obtain ⟨Q, hQ⟩ := seenOf_den (ν := ν) hs
      exact ⟨o.den ν (ν n) * Q, by simp only [SH.den]; rw [hQ, Assn.mul_assoc]⟩
    cases o with
    | seen W' =>
      simp only [seenOf, Option.some.injEq] at hs
      subst hs
      exact ⟨SH.den ν h, by simp only [SH.den, SO.den]; exact Assn.mul_comm _ _⟩
    | _ => exact next hs
theorem law_seen {T : List (Smry Try.prog E)} {wr : FuncId → Nat → Bool} {LF k : Nat} {g : FuncId} {args : List SV} {s : Scr E} {W : World} (h : Run (callN Try.prog T wr LF k g args ⟨[(0, .seen W)], 1⟩ s fun v m _ => retSeen W v m)) :
    Calls Try.prog g (args.map (SV.den fun _ => 0)).toArray W fun e w' => e = .returned (.bool true) ∧ Below W.heap.size W w' := by
  have H : Sat W (SH.den (fun _ => 0) (⟨[(0, .seen W)], 1⟩ : Mem E).hp * 1) := by
    simp only [SH.den, SO.den]
    exact (Sat.old W).cast (by rw [Assn.mul_comm (old W) 1, Assn.one_mul, Assn.mul_comm (old W) 1, Assn.one_mul])
  refine (callN_ok namesOk mixed T wr LF k g args ⟨[(0, .seen W)], 1⟩ s _ h.out (fun _ => 0) W 1 W H (Kept.refl W)).mono ?_
  rintro e w' ⟨v, m', s', μ, ⟨hv, hsn⟩, _, _, he, hs, hk⟩
  obtain ⟨Q, hQ⟩ := seenOf_den (ν := μ) hsn
  rw [hQ, Assn.mul_comm _ (1 : Assn), Assn.one_mul] at hs
  exact ⟨by rw [he, retTrue_den hv], Below.of_old hs hk⟩
theorem law_trueR {T : List (Smry Try.prog E)} {wr : FuncId → Nat → Bool} {LF k : Nat} {g : FuncId} {args : List SV} {s : Scr E} (h : Run (callN Try.prog T wr LF k g args ⟨[], 0⟩ s fun v _ _ => retTrue v)) (W : World) :
    Calls Try.prog g (args.map (SV.den fun _ => 0)).toArray W fun e w' => e = .returned (.bool true) ∧ Below W.heap.size W w' := law_true h.out W
/-- A law's first: it answers true, whatever the memory. -/
def firstS (g : FuncId) (h : ∀ W, Calls Try.prog g #[] W fun e w' => e = .returned (.bool true) ∧ Below W.heap.size W w') : Smry Try.prog E where
  g := g
  run := fun args m K => match args with
    | [] => K (.c (.boo true true)) m
    | _ => Stuck 720
  ok := fun args m K hr => by
    split at hr <;> try exact hr.elim
    exact gives_pure hr fun ν w => h w
end
end Go.Proofs.Ytgiakcepgbpchaa
