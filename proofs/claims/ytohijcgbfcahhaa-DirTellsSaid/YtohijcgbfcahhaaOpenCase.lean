/- The argument of DirTells, opened: a struct of one uint64 and four ints. -/
import Derived.Test.YtohijcgbfcahhaaOpens
import Derived.Test.YtohijcgbfcahhaaProg
namespace Go.Proofs.Ytohijcgbfcahhaa
open Go.ChangeShapes Go.WideShapes Go.ChangeAt Go.RowKit

theorem open_case {H : Type} {enc : TypeId × Value → H} {w : World} {base b0 : Nat} {spare : Nat → Bool} {held : Bool} {r : Reach} {v : Value} {d : DataW H} {p : List MemPlace}
    (hv : Value.okWide Try.prog w r b0 37 v) (h : DataW.Trod enc Try.prog w base spare held 37 v d p) :
    ∃ a s f g n : Int, v = .agg #[.int .u64 a, .int .i64 s, .int .i64 f, .int .i64 g, .int .i64 n] ∧ (Lit.int .u64 a).wf = true ∧ (Lit.int .i64 s).wf = true ∧ (Lit.int .i64 f).wf = true ∧ (Lit.int .i64 g).wf = true ∧ (Lit.int .i64 n).wf = true := by
  unfold Value.okWide at hv
  rw [Try.underlying37] at hv
  obtain ⟨cs, rfl, hsz, _⟩ := hv
  have e5 : Try.prog.cellsOf 37 = 5 := by kernel_rfl
  have e2 : Try.prog.cellsOf 35 = 2 := by kernel_rfl
  have ei : Try.prog.cellsOf 3 = 1 := by kernel_rfl
  have eu : Try.prog.cellsOf 22 = 1 := by kernel_rfl
  rw [e5] at hsz
  obtain ⟨c0, c1, c2, c3, c4, rfl⟩ : ∃ c0 c1 c2 c3 c4, cs = #[c0, c1, c2, c3, c4] := by
    obtain ⟨l⟩ := cs
    match l, hsz with
    | [c0, c1, c2, c3, c4], _ => exact ⟨c0, c1, c2, c3, c4, rfl⟩
  obtain ⟨fuel, hf⟩ := h
  obtain ⟨xs, m, _, _, _, hl, hx⟩ := DataW.trod_struct Try.underlying37 hf
  obtain ⟨x0, x1, x2, x3, rfl⟩ : ∃ x0 x1 x2 x3, xs = [x0, x1, x2, x3] := by
    match xs, hl with
    | [x0, x1, x2, x3], _ => exact ⟨x0, x1, x2, x3, rfl⟩
  have k0 : DataW.trod enc Try.prog w base spare held m 35 ((([c0, c1, c2, c3, c4] : List Value).drop 0).take (Try.prog.cellsOf 35)) = some x0 := hx 0 _ rfl
  have k1 : DataW.trod enc Try.prog w base spare held m 3 ((([c0, c1, c2, c3, c4] : List Value).drop 2).take (Try.prog.cellsOf 3)) = some x1 := hx 1 _ rfl
  have k2 : DataW.trod enc Try.prog w base spare held m 3 ((([c0, c1, c2, c3, c4] : List Value).drop 3).take (Try.prog.cellsOf 3)) = some x2 := hx 2 _ rfl
  have k3 : DataW.trod enc Try.prog w base spare held m 3 ((([c0, c1, c2, c3, c4] : List Value).drop 4).take (Try.prog.cellsOf 3)) = some x3 := hx 3 _ rfl
  rw [e2] at k0
  rw [ei] at k1 k2 k3
  replace k0 : DataW.trod enc Try.prog w base spare held m 35 [c0, c1] = some x0 := k0
  obtain ⟨f, ef, _, wf⟩ := DataW.trod_int Try.underlying3 k1
  obtain ⟨g, eg, _, wg⟩ := DataW.trod_int Try.underlying3 k2
  obtain ⟨n, en, _, wn⟩ := DataW.trod_int Try.underlying3 k3
  obtain ⟨ys, m', _, _, _, hl', hy⟩ := DataW.trod_struct Try.underlying35 k0
  obtain ⟨y0, y1, rfl⟩ : ∃ y0 y1, ys = [y0, y1] := by
    match ys, hl' with
    | [y0, y1], _ => exact ⟨y0, y1, rfl⟩
  have j0 : DataW.trod enc Try.prog w base spare held m' 22 ((([c0, c1] : List Value).drop 0).take (Try.prog.cellsOf 22)) = some y0 := hy 0 _ rfl
  have j1 : DataW.trod enc Try.prog w base spare held m' 3 ((([c0, c1] : List Value).drop 1).take (Try.prog.cellsOf 3)) = some y1 := hy 1 _ rfl
  rw [eu] at j0
  rw [ei] at j1
  obtain ⟨a, ea, _, wa⟩ := DataW.trod_int Try.underlying22 j0
  obtain ⟨s, es, _, ws⟩ := DataW.trod_int Try.underlying3 j1
  simp at ea es ef eg en
  subst ea es ef eg en
  exact ⟨a, s, f, g, n, rfl, wa, ws, wf, wg, wn⟩
theorem wf_u64' {a : Int} (h : (Lit.int .u64 a).wf = true) : 0 ≤ a ∧ a ≤ 18446744073709551615 := by
  simpa [Lit.wf, IntKind.min, IntKind.max, IntKind.bits, IntKind.signed] using h
end Go.Proofs.Ytohijcgbfcahhaa
