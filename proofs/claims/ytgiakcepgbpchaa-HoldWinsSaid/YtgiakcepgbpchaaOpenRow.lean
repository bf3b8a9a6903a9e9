/- Slices of integers that are handed in, opened. -/
import Derived.Test.YtgiakcepgbpchaaOpens
import Derived.Test.YtgiakcepgbpchaaSymA
import Derived.Test.YtgiakcepgbpchaaProg
namespace Go.Proofs.Ytgiakcepgbpchaa
open Go.ChangeShapes Go.WideShapes Go.ChangeAt Go.RowKit

theorem seenInt_of {k : IntKind} {W : World} {x : Addr} {n : Int} (hc : W.cell? x = some (.int k n)) (hw : (Lit.int k n).wf = true) : seenInt k W (some x) = n := by
  have hb : k.min ≤ n ∧ n ≤ k.max := by simpa [Lit.wf] using hw
  unfold seenInt
  simp only [hc]
  omega
theorem open_seen {H : Type} {enc : TypeId × Value → H} {P : Program} {w : World} {base b0 : Nat} {spare : Nat → Bool} {held : Bool} {r : Reach} {T e : TypeId} {k : IntKind} {v : Value} {d : DataW H} {p : List MemPlace} (hT : P.underlying T = some (.slice e)) (he : P.underlying e = some (.int k)) (hc : P.cellsOf e = 1)
    (hv : Value.okWide P w r b0 T v) (h : DataW.Trod enc P w base spare held T v d p) : ∃ (a : Option Addr) (len cap : Nat), v = .slice a len cap ∧ (0 < len → a.isSome = true) ∧ ∀ j, j < len → Seen k w (addOpt a j) := by
  obtain ⟨a, len, cap, rfl⟩ := okWide_slice hT hv
  obtain ⟨fuel, hf⟩ := h
  rcases open_ints hT he hc hf with ⟨hcs, _⟩ | ⟨x, l, c, zs, hcs, _, hl, hm, hz, _, hcell, hwz⟩
  · simp [Value.cells] at hcs
    obtain ⟨rfl, rfl, rfl⟩ := hcs
    exact ⟨none, 0, 0, rfl, fun h => by omega, fun j h => by omega⟩
  · simp [Value.cells] at hcs
    obtain ⟨rfl, rfl, rfl⟩ := hcs
    refine ⟨some x, len, cap, rfl, fun _ => rfl, fun j hj => ?_⟩
    have hlen : len ≤ zs.length := by rw [hz]; split <;> omega
    have h1 := hcell j (by omega)
    have h2 : zs.getD j 0 ∈ zs := by
      rw [List.getD_eq_getElem?_getD, List.getElem?_eq_getElem (by omega)]
      exact List.getElem_mem _
    exact ⟨x.add j, rfl, by rw [addOpt, Option.map_some, seenInt_of h1 (hwz _ h2)]; exact h1⟩
end Go.Proofs.Ytgiakcepgbpchaa
