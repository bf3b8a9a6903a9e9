/- ModelApart: for every input the law returns true and leaves its arguments as they were; no condition. -/
import Derived.Test.YtaflaaiomlijbaaRows
import Derived.WalkKit
import Derived.ProofKit
import Derived.OpenShut
import Derived.ChangeOld
import Derived.Below
import Derived.Test.YtaflaaiomlijbaaLawModelApart2
import Derived.Test.YtaflaaiomlijbaaOpenSli
set_option linter.all false
namespace Go.Proofs.Ytaflaaiomlijbaa.modelApart
open Go.ChangeShapes Go.WideShapes Go.ChangeAt Go.RowKit

theorem own : ownKnob Try.prog.godebug = none := by kernel_rfl
theorem laidOut : laidOutB Try.prog = true := by kernel_rfl

set_option maxRecDepth 100000 in
theorem lifted (os : Os) (started : os.Started) (H : Type) (enc : TypeId × Value → H) :
    ReturnsInHanded {} Try.checked os 8 .any (Rows.modelApartSpec.pre6 enc Try.prog Try.f8 Rows.modelApartRow.domain false) (Rows.modelApartSpec.post enc Try.prog Try.f8 false true false false) := by
  refine returnsInHanded_of_change (C := Try.checked) own started (by kernel_rfl) Try.func8
    (ChangeSpec.witness6 (enc := enc) (C := Try.checked) false ⟨#[], #[.slice none 0 0, .agg #[.int .i64 0, .int .i64 0, .int .i64 0, .int .i64 0], .agg #[.int .i64 0, .int .i64 0, .int .i64 0, .int .i64 0]], []⟩ 8 (by kernel_rfl) (by kernel_rfl) (by kernel_rfl) (by kernel_rfl)) ?_
  intro W base args ds gs before hval0 hW hcnd _
  have hval : ∀ (j : Nat) t v, Try.f8.params[j]? = some t → args[j]? = some v → Value.okWide Try.prog W .any base t v := hval0
  have hW' := hW
  obtain ⟨p, q, hA0, hV, rfl, hfz, hnd⟩ := hW
  have hA : DataW.TrodAll enc Try.prog W 0 (fun _ => true) true Try.f8.params.toList args.toList ds p := hA0
  rw [Try.params8] at hA hval
  obtain ⟨v0, vs0, d0, ds0, p0, q0, hargs, rfl, rfl, h0, r0⟩ := trodAll_cons hA
  obtain ⟨v1, vs1, d1, ds1, p1, q1, rfl, rfl, rfl, h1, r1⟩ := trodAll_cons r0
  obtain ⟨v2, vs2, d2, ds2, p2, q2, rfl, rfl, rfl, h2, r2⟩ := trodAll_cons r1
  obtain ⟨rfl, rfl, rfl⟩ := trodAll_nil r2
  obtain rfl : args = #[v0, v1, v2] := by cases args; simp_all
  obtain ⟨rfl, rfl⟩ := trodVars_none hV
  have k0 := h0
  have lt0 : ∀ x ∈ p0, x.block < W.heap.size := by obtain ⟨m, hm⟩ := k0; exact DataW.trod_lt m _ _ _ hm
  have k1 := h1
  have lt1 : ∀ x ∈ p1, x.block < W.heap.size := by obtain ⟨m, hm⟩ := k1; exact DataW.trod_lt m _ _ _ hm
  have k2 := h2
  have lt2 : ∀ x ∈ p2, x.block < W.heap.size := by obtain ⟨m, hm⟩ := k2; exact DataW.trod_lt m _ _ _ hm
  obtain ⟨a0, l0, c0, rfl, s0, x0, m0⟩ := open_sliL Try.underlying73 (hval 0 73 v0 rfl rfl) h0
  obtain ⟨cs1, rfl, hc1_0⟩ := open_agg (ks := [.int .i64, .int .i64, .int .i64, .int .i64]) 8 (by first | exact .inl ⟨_, Try.underlying26⟩ | exact .inr ⟨_, _, Try.underlying26⟩) (by kernel_rfl) (hval 1 26 v1 rfl rfl) h1
  obtain ⟨_, _, rfl, ⟨a1_0, rfl, w1_0⟩, hc1_1⟩ := fits_cons hc1_0
  obtain ⟨_, _, rfl, ⟨a1_1, rfl, w1_1⟩, hc1_2⟩ := fits_cons hc1_1
  obtain ⟨_, _, rfl, ⟨a1_2, rfl, w1_2⟩, hc1_3⟩ := fits_cons hc1_2
  obtain ⟨_, _, rfl, ⟨a1_3, rfl, w1_3⟩, hc1_4⟩ := fits_cons hc1_3
  obtain rfl := fits_nil hc1_4
  obtain ⟨cs2, rfl, hc2_0⟩ := open_agg (ks := [.int .i64, .int .i64, .int .i64, .int .i64]) 8 (by first | exact .inl ⟨_, Try.underlying26⟩ | exact .inr ⟨_, _, Try.underlying26⟩) (by kernel_rfl) (hval 2 26 v2 rfl rfl) h2
  obtain ⟨_, _, rfl, ⟨a2_0, rfl, w2_0⟩, hc2_1⟩ := fits_cons hc2_0
  obtain ⟨_, _, rfl, ⟨a2_1, rfl, w2_1⟩, hc2_2⟩ := fits_cons hc2_1
  obtain ⟨_, _, rfl, ⟨a2_2, rfl, w2_2⟩, hc2_3⟩ := fits_cons hc2_2
  obtain ⟨_, _, rfl, ⟨a2_3, rfl, w2_3⟩, hc2_4⟩ := fits_cons hc2_3
  obtain rfl := fits_nil hc2_4
  clear hA0 hval0
  skip
  refine (modelApart_all W a0 l0 c0 a1_0 a1_1 a1_2 a1_3 a2_0 a2_1 a2_2 a2_3 s0 x0 m0).mono fun e W' ⟨he, bel⟩ => ?_
  subst he
  exact ⟨_, rfl, _, _, _, [], _, [], hW', trodAll_mk1 (shut_bool Try.underlying4 _), (trodAll_cons_mk (Below.trod laidOut (by kernel_rfl) (of_decide_eq_true (by kernel_rfl)) k0 bel lt0) (trodAll_cons_mk (Below.trod laidOut (by kernel_rfl) (of_decide_eq_true (by kernel_rfl)) k1 bel lt1) (trodAll_cons_mk (Below.trod laidOut (by kernel_rfl) (of_decide_eq_true (by kernel_rfl)) k2 bel lt2) trodAll_mk0))), rfl, bel.frame _, fun h => by cases h⟩

theorem over : Rows.modelApartRow.holds Try.pinned (OpenSpec.ofChange Rows.modelApartSpec) :=
  OpenClaim.holds_of_wide 8 Try.f8 rfl rfl rfl rfl rfl rfl rfl ⟨rfl, rfl, rfl, rfl, rfl⟩ rfl rfl rfl rfl rfl (by kernel_rfl) Try.func8 (by kernel_rfl)
    (of_decide_eq_true (by kernel_rfl)) (by unfold Func.isWrapper; first | (rw [if_pos (by decide +kernel)]; kernel_rfl) | (rw [if_neg (by decide +kernel)]; exact ⟨rfl, rfl⟩))
    (fun os started H enc _ => lifted os started H enc)

theorem proved : Rows.ModelApartSaid := over
#print axioms proved
end Go.Proofs.Ytaflaaiomlijbaa.modelApart
