/- What the runs of the law DraftShares lean upon. -/
import Derived.Test.YtnkikhhiaecebaaDrf
import Derived.Test.YtnkikhhiaecebaaFirst08
set_option linter.all false
namespace Go.Proofs.Ytnkikhhiaecebaa
open Go Go.RowKit
theorem law_trueO {E : EXT} {T : List (Smry Try.prog E)} {wr : FuncId → Nat → Bool} {LF k : Nat} {g : FuncId} {args : List SV} {s : Scr E} (h : Run (callN Try.prog T wr LF k g args ⟨[], 1⟩ s fun v _ _ => retTrue v)) (W : World) :
    Calls Try.prog g (args.map (SV.den fun _ => 0)).toArray W fun e w' => e = .returned (.bool true) ∧ Below W.heap.size W w' := by
  have H : Sat W (SH.den (fun _ => 0) (⟨[], 1⟩ : Mem E).hp * old W) := by
    simp only [SH.den]
    rw [Assn.one_mul]
    exact Sat.old W
  refine (callN_ok namesOk mixed T wr LF k g args ⟨[], 1⟩ s _ h.out (fun _ => 0) W (old W) W H (Kept.refl W)).mono ?_
  rintro e w' ⟨v, m', s', μ, hv, _, _, he, hs, hk⟩
  exact ⟨by rw [he, retTrue_den hv], Below.of_old hs hk⟩
def tblDS : List (Smry Try.prog XN) := [firstS 40 (fun W => by have h := law_trueO (first08_run trivial) W; exact h), rightS, dkS]
theorem ds_tn (x l : Int) : (dkF x l).toNat < 4 := by have := dkF_bd x l; omega
/-- A node with a word that isn't nought is no empty one. -/
theorem ds_no {x p : Int} (hx : 0 ≤ x ∧ x ≤ 3) (hp : 0 ≤ p) (h : (false == ((if x.toNat = 0 then p + 1 else 0) == 0 && ((if x.toNat = 1 then p + 1 else 0) == 0 && ((if x.toNat = 2 then p + 1 else 0) == 0 && ((if x.toNat = 3 then p + 1 else 0) == 0 && true))))) = false) : False := by
  have hq : ((p + 1 : Int) == 0) = false := by
    cases e : ((p + 1 : Int) == 0)
    · rfl
    · have := eq_of_beq e; omega
  have ht : x = 0 ∨ x = 1 ∨ x = 2 ∨ x = 3 := by omega
  rcases ht with rfl | rfl | rfl | rfl <;> simp [hq] at h
def B64 (x : Int) : Prop := 0 ≤ x ∧ x < 18446744073709551616
def I64 (x : Int) : Prop := -9223372036854775808 ≤ x ∧ x ≤ 9223372036854775807
def DsOk (a b c d e f g : Int) : Prop := (B64 a ∧ I64 b ∧ B64 c) ∧ I64 d ∧ I64 e ∧ B64 f ∧ I64 g
end Go.Proofs.Ytnkikhhiaecebaa
