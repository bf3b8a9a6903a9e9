/- A copy of a stock of numbers. -/
import Derived.Deep.RegionWith
import Derived.Deep.RegionHeld3
import Derived.Test.YtnfpkadepomjjaaCloA
set_option linter.all false
namespace Go.Proofs.Ytnfpkadepomjjaa
open Go.RowKit

theorem rowAt_slice {w : World} {T : TypeId} {v : Value} {xs : List Value} {R : Assn} (h : Sat w (rowAt T v xs * R)) : ∃ a n c, v = .slice a n c := by
  rcases rowAt_open h with ⟨rfl, _⟩ | ⟨g, cap, cur, rfl, _⟩
  · exact ⟨_, _, _, rfl⟩
  · exact ⟨_, _, _, rfl⟩

set_option maxHeartbeats 1600000 in
set_option maxRecDepth 20000 in
theorem stk_clone (ps : Nat) (S : Stk) (w : World) {R : Assn} (H : Sat w (stkAt ps S * R)) (hl : S.back.length ≤ 70000) :
    Calls Try.prog 153 #[.pointer (some ⟨ps, 0, none⟩)] w fun e w' => ∃ pc, e = .returned (.pointer (some ⟨pc, 0, none⟩)) ∧ Sat w' (stkAt pc S * (stkAt ps S * R)) ∧ Kept w w' := by
  obtain ⟨⟨pb, v⟩, H1⟩ := H.ex_mul
  simp only [Assn.mul_assoc] at H1
  obtain ⟨MM, hMM⟩ : ∃ MM : Nat → Assn, MM = fun c => mapAt c (S.used.map fun n : Nat => ((n : Int), Value.int .i64 1)) := ⟨_, rfl⟩
  obtain ⟨RR, hRR⟩ : ∃ RR : Value → Assn, RR = fun c => rowAt 3 c (intv S.back) := ⟨_, rfl⟩
  obtain ⟨P0, hP0⟩ : ∃ P0, P0 = own ps (.cells #[.int .i64 65535, .int .i64 S.high, v, .map (some pb)] 296 (0, 0)) := ⟨_, rfl⟩
  have HM : Hid (∀ w (R : Assn), Sat w (MM pb * R) → Calls Try.prog 204 #[.map (some pb)] w fun e w' => ∃ c, e = .returned (.map (some c)) ∧ Sat w' (MM c * (MM pb * R)) ∧ Below w.heap.size w w') := by subst hMM; exact fun w R h => maps_clone pb _ w h
  have HR : Hid (∀ w (R : Assn), Sat w (RR v * R) → Calls Try.prog 203 #[v] w fun e w' => ∃ a n c, e = .returned (.slice a n c) ∧ Sat w' (RR (.slice a n c) * (RR v * R)) ∧ Below w.heap.size w w') := by
    subst hRR
    intro w R h
    refine (clone_row v S.back w h hl).mono ?_
    rintro e w' ⟨v', rfl, h1, h2⟩
    obtain ⟨a, n, c, rfl⟩ := rowAt_slice h1
    exact ⟨a, n, c, rfl, h1, h2⟩
  have hS : Hid (∀ w X, Sat w (P0 * X) → w.cell? ⟨ps, 0, none⟩ = some (.int .i64 65535) ∧ w.cell? ⟨ps, 1, none⟩ = some (.int .i64 S.high) ∧ w.cell? ⟨ps, 2, none⟩ = some v ∧ w.cell? ⟨ps, 3, none⟩ = some (.map (some pb))) := by
    subst hP0
    exact fun w X h => ⟨h.cell 0, h.cell 1, h.cell 2, h.cell 3⟩
  have HH : Hid (Sat w (P0 * (MM pb * (RR v * R)))) := by subst hMM hRR hP0; exact H1
  have HF : Hid (∀ q c v' w, Sat w (own q (.cells #[.int .i64 65535, .int .i64 S.high, v', .map (some c)] 296 (0, 0)) * (MM c * (RR v' * (P0 * (MM pb * (RR v * R)))))) → Sat w (stkAt q S * (stkAt ps S * R))) := by
    subst hMM hRR hP0
    intro q c v' w h
    refine Sat.mk_ex_mul (c, v') ?_
    refine Sat.cast (P := stkAt ps S * (own q (.cells #[.int .i64 65535, .int .i64 S.high, v', .map (some c)] 296 (0, 0)) * (mapAt c (S.used.map fun n : Nat => ((n : Int), Value.int .i64 1)) * rowAt 3 v' (intv S.back)) * R)) ?_ (by simp only []; ac_rfl)
    refine Sat.mk_ex_mul (pb, v) ?_
    refine h.cast ?_
    simp only []
    ac_rfl
  obtain ⟨c0, c1, c2, c3⟩ := hS.out _ _ HH.out
  clear H H1 hMM hRR hP0
  go_enter Try.func153, Try.ntmps153
  go_wp2_with fail
  go_region_held3 (fun w' => w'.cell? ⟨ps, 0, none⟩ = some (.int .i64 65535) ∧ w'.cell? ⟨ps, 1, none⟩ = some (.int .i64 S.high) ∧ w'.cell? ⟨ps, 2, none⟩ = some v ∧ w'.cell? ⟨ps, 3, none⟩ = some (.map (some pb)))
    (first | go_keep | exact hS.out _ _ (Sat.drew HH.out) | exact hS.out _ _ (hsR2.cast (Q := P0 * (RR (.slice va vn vc) * (RR v * (MM cc * (MM pb * R))))) (by ac_rfl)) | exact hS.out _ _ (hsM2.cast (Q := P0 * (MM cc * (MM pb * (RR (.slice va vn vc) * (RR v * R))))) (by ac_rfl)) | exact hS.out _ _ (hsR.cast (Q := P0 * (RR (.slice va vn vc) * (RR v * (MM pb * R)))) (by ac_rfl)) | exact hS.out _ _ (hsM.cast (Q := P0 * (MM cc * (MM pb * (RR v * R)))) (by ac_rfl)))
    (first
      | (go_at_call 203; first
        | (refine (HR.out w.drew _ (Sat.cast (Q := RR v * (P0 * (MM pb * R))) (Sat.drew HH.out) (by ac_rfl))).mono ?_; rintro e w1 ⟨va, vn, vc, rfl, hsR, hbR⟩)
        | (refine (HR.out _ _ (Sat.cast (Q := RR v * (MM cc * (P0 * (MM pb * R)))) hsM (by ac_rfl))).mono ?_; rintro e w2 ⟨va, vn, vc, rfl, hsR2, hbR⟩))
      | (go_at_call 204; first
        | (refine (HM.out w.drew _ (Sat.cast (Q := MM pb * (P0 * (RR v * R))) (Sat.drew HH.out) (by ac_rfl))).mono ?_; rintro e w1 ⟨cc, rfl, hsM, hbM⟩)
        | (refine (HM.out _ _ (Sat.cast (Q := MM pb * (RR (.slice va vn vc) * (P0 * (RR v * R)))) hsR (by ac_rfl))).mono ?_; rintro e w2 ⟨cc, rfl, hsM2, hbM⟩)))
  all_goals go_wp2
  all_goals go_ret
  all_goals first
    | exact ⟨_, rfl, HF.out _ cc _ _ ((hsM2.alloc _).cast (by ac_rfl)), (((Kept.refl w).drew.below hbR).below hbM).alloc _⟩
    | exact ⟨_, rfl, HF.out _ cc _ _ ((hsR2.alloc _).cast (by ac_rfl)), (((Kept.refl w).drew.below hbM).below hbR).alloc _⟩
end Go.Proofs.Ytnfpkadepomjjaa
