/- Slices of anything that are handed in: their lengths have bounds. -/
import Derived.Test.YtaflaaiomlijbaaBaseO
set_option linter.all false
namespace Go.Proofs.Ytaflaaiomlijbaa
open Go.ChangeShapes Go.WideShapes Go.ChangeAt Go.RowKit
theorem open_sliL {P : Program} {W : World} {H : Type} {enc : TypeId × Value → H} {base : Nat} {spare : Nat → Bool} {held : Bool} {r : Reach} {b0 : Nat} {v : Value} {dd : DataW H} {p : List MemPlace} {T e : TypeId} (hT : P.underlying T = some (.slice e)) (hv : Value.okWide P W r b0 T v) (h : DataW.Trod enc P W base spare held T v dd p) :
    ∃ (a : Option Addr) (len cap : Nat), v = .slice a len cap ∧ (0 < len → a.isSome = true) ∧ (∀ j, j < len → At P W e (addOpt a (j * P.cellsOf e))) ∧ len ≤ maxLen := by
  obtain ⟨a, len, cap, rfl, h1, h2⟩ := open_sli hT hv h
  obtain ⟨fuel, hf⟩ := h
  refine ⟨a, len, cap, rfl, h1, h2, ?_⟩
  rcases DataW.trod_slice hT hf with ⟨hcs, _⟩ | ⟨x, l, c, elems, rest, n, _, hcs, _, _, hl, hm, _⟩
  · simp [Value.cells] at hcs
    obtain ⟨rfl, rfl, rfl⟩ := hcs
    exact Nat.zero_le _
  · simp [Value.cells] at hcs
    obtain ⟨rfl, rfl, rfl⟩ := hcs
    omega
end Go.Proofs.Ytaflaaiomlijbaa
