/- DraftShares: for every input the law returns true and leaves its arguments as they were; no condition. -/
import Derived.Test.YtnkikhhiaecebaaRows
import Derived.WalkKit
import Derived.ProofKit
import Derived.OpenShut
import Derived.ChangeOld
import Derived.Below
import Derived.Test.YtnkikhhiaecebaaLawDraftShares2
import Derived.Test.YtnkikhhiaecebaaBaseO
set_option linter.all false
namespace Go.Proofs.Ytnkikhhiaecebaa.draftShares
open Go.ChangeShapes Go.WideShapes Go.ChangeAt Go.RowKit

theorem own : ownKnob Try.prog.godebug = none := by kernel_rfl
theorem laidOut : laidOutB Try.prog = true := by kernel_rfl

set_option maxRecDepth 100000 in
theorem lifted (os : Os) (started : os.Started) (H : Type) (enc : TypeId × Value → H) :
    ReturnsInHanded {} Try.checked os 4 .any (Rows.draftSharesSpec.pre6 enc Try.prog Try.f4 Rows.draftSharesRow.domain false) (Rows.draftSharesSpec.post enc Try.prog Try.f4 false true false false) := by
  refine returnsInHanded_of_change (C := Try.checked) own started (by kernel_rfl) Try.func4
    (ChangeSpec.witness6 (enc := enc) (C := Try.checked) false ⟨#[], #[.agg #[.int .u64 0, .int .i64 0, .int .u64 0, .int .i64 0, .int .i64 0, .int .u64 0, .int .i64 0], .agg #[.int .i64 0, .int .i64 0, .int .i64 0, .int .i64 0]], []⟩ 8 (by kernel_rfl) (by kernel_rfl) (by kernel_rfl) (by kernel_rfl)) ?_
  intro W base args ds gs before hval0 hW hcnd _
  have hval : ∀ (j : Nat) t v, Try.f4.params[j]? = some t → args[j]? = some v → Value.okWide Try.prog W .any base t v := hval0
  have hW' := hW
  obtain ⟨p, q, hA0, hV, rfl, hfz, hnd⟩ := hW
  have hA : DataW.TrodAll enc Try.prog W 0 (fun _ => true) true Try.f4.params.toList args.toList ds p := hA0
  rw [Try.params4] at hA hval
  obtain ⟨v0, vs0, d0, ds0, p0, q0, hargs, rfl, rfl, h0, r0⟩ := trodAll_cons hA
  obtain ⟨v1, vs1, d1, ds1, p1, q1, rfl, rfl, rfl, h1, r1⟩ := trodAll_cons r0
  obtain ⟨rfl, rfl, rfl⟩ := trodAll_nil r1
  obtain rfl : args = #[v0, v1] := by cases args; simp_all
  obtain ⟨rfl, rfl⟩ := trodVars_none hV
  have k0 := h0
  have lt0 : ∀ x ∈ p0, x.block < W.heap.size := by obtain ⟨m, hm⟩ := k0; exact DataW.trod_lt m _ _ _ hm
  have k1 := h1
  have lt1 : ∀ x ∈ p1, x.block < W.heap.size := by obtain ⟨m, hm⟩ := k1; exact DataW.trod_lt m _ _ _ hm
  obtain ⟨cs0, rfl, hc0_0⟩ := open_agg (ks := [.int .u64, .int .i64, .int .u64, .int .i64, .int .i64, .int .u64, .int .i64]) 8 (by first | exact .inl ⟨_, Try.underlying75⟩ | exact .inr ⟨_, _, Try.underlying75⟩) (by kernel_rfl) (hval 0 75 v0 rfl rfl) h0
  obtain ⟨_, _, rfl, ⟨a0_0, rfl, w0_0⟩, hc0_1⟩ := fits_cons hc0_0
  obtain ⟨_, _, rfl, ⟨a0_1, rfl, w0_1⟩, hc0_2⟩ := fits_cons hc0_1
  obtain ⟨_, _, rfl, ⟨a0_2, rfl, w0_2⟩, hc0_3⟩ := fits_cons hc0_2
  obtain ⟨_, _, rfl, ⟨a0_3, rfl, w0_3⟩, hc0_4⟩ := fits_cons hc0_3
  obtain ⟨_, _, rfl, ⟨a0_4, rfl, w0_4⟩, hc0_5⟩ := fits_cons hc0_4
  obtain ⟨_, _, rfl, ⟨a0_5, rfl, w0_5⟩, hc0_6⟩ := fits_cons hc0_5
  obtain ⟨_, _, rfl, ⟨a0_6, rfl, w0_6⟩, hc0_7⟩ := fits_cons hc0_6
  obtain rfl := fits_nil hc0_7
  obtain ⟨cs1, rfl, hc1_0⟩ := open_agg (ks := [.int .i64, .int .i64, .int .i64, .int .i64]) 8 (by first | exact .inl ⟨_, Try.underlying77⟩ | exact .inr ⟨_, _, Try.underlying77⟩) (by kernel_rfl) (hval 1 77 v1 rfl rfl) h1
  obtain ⟨_, _, rfl, ⟨a1_0, rfl, w1_0⟩, hc1_1⟩ := fits_cons hc1_0
  obtain ⟨_, _, rfl, ⟨a1_1, rfl, w1_1⟩, hc1_2⟩ := fits_cons hc1_1
  obtain ⟨_, _, rfl, ⟨a1_2, rfl, w1_2⟩, hc1_3⟩ := fits_cons hc1_2
  obtain ⟨_, _, rfl, ⟨a1_3, rfl, w1_3⟩, hc1_4⟩ := fits_cons hc1_3
  obtain rfl := fits_nil hc1_4
  clear hA0 hval0
  skip
  refine (draftShares_all W a0_0 a0_1 a0_2 a0_3 a0_4 a0_5 a0_6 a1_0 a1_1 a1_2 a1_3 (by have := wf_lit64 w0_0; have := wf_liti w0_1; have := wf_lit64 w0_2; have := wf_liti w0_3; have := wf_liti w0_4; have := wf_lit64 w0_5; have := wf_liti w0_6; unfold DsOk B64 I64; omega)).mono fun e W' ⟨he, bel⟩ => ?_
  subst he
  exact ⟨_, rfl, _, _, _, [], _, [], hW', trodAll_mk1 (shut_bool Try.underlying4 _), (trodAll_cons_mk (Below.trod laidOut (by kernel_rfl) (of_decide_eq_true (by kernel_rfl)) k0 bel lt0) (trodAll_cons_mk (Below.trod laidOut (by kernel_rfl) (of_decide_eq_true (by kernel_rfl)) k1 bel lt1) trodAll_mk0)), rfl, bel.frame _, fun h => by cases h⟩

theorem rowed : mapsRowed Try.prog = true := by kernel_rfl
theorem m1 : Try.prog.inPlace 4 = [] := by kernel_rfl
theorem m2 : Try.prog.unfollowed 4 = false := by kernel_rfl
theorem m3 : Try.prog.recurses 4 = true := by kernel_rfl
theorem m4 : Try.prog.varsNamed 4 = [] := by kernel_rfl
theorem closed : joinedFacts Try.prog 4 Try.f4 Rows.draftSharesSpec Rows.draftSharesRow = true := by
  unfold joinedFacts
  rw [laidOut, rowed, m1, m2, m3, m4]
  kernel_rfl
theorem over : Rows.draftSharesRow.holds Try.pinned (OpenSpec.ofChange Rows.draftSharesSpec) :=
  OpenClaim.holds_of_wide 4 Try.f4 rfl rfl rfl rfl rfl rfl rfl ⟨rfl, rfl, rfl, rfl, rfl⟩ rfl rfl rfl rfl rfl (by kernel_rfl) Try.func4 closed
    (of_decide_eq_true (by kernel_rfl)) (by unfold Func.isWrapper; first | (rw [if_pos (by decide +kernel)]; kernel_rfl) | (rw [if_neg (by decide +kernel)]; exact ⟨rfl, rfl⟩))
    (fun os started H enc _ => lifted os started H enc)

theorem proved : Rows.DraftSharesSaid := over
#print axioms proved
end Go.Proofs.Ytnkikhhiaecebaa.draftShares
