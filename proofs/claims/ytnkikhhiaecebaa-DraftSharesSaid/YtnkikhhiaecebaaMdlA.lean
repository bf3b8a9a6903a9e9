/- Models as plain data: operations upon unlike parts may come in either order. No program in sight. -/
import Derived.Test.YtnkikhhiaecebaaMdlW
set_option linter.all false
namespace Go.Proofs.Ytnkikhhiaecebaa
open Go Go.RowKit

/-- What becomes of a map: nothing, one key is deleted, one key has another value. -/
def chg (l : List (Int × Value)) (k : Int) : Option (Option Value) → List (Int × Value)
  | none => l
  | some none => delL l k
  | some (some v) => updL l k v
theorem look_chg {l : List (Int × Value)} (hl : Keys1 l) {k y : Int} {ch : Option (Option Value)} : look (chg l k ch) y = if k = y then ch.getD (look l k) else look l y := by
  match ch with
  | none =>
    show look l y = _
    split
    · rename_i e; subst e; rfl
    · rfl
  | some none => exact look_delL hl
  | some (some v) => exact look_updL
theorem chg_keys1 {l : List (Int × Value)} (hl : Keys1 l) {k : Int} {ch : Option (Option Value)} : Keys1 (chg l k ch) := by
  match ch with
  | none => exact hl
  | some none => exact delL_keys1 hl
  | some (some v) => exact updL_keys1 hl
def vO (o : Option Value) : Int := match o with
  | some (.int _ n) => n
  | _ => 0
theorem atK_vO (l : List (Int × Value)) (k : Int) : atK l k = vO (look l k) := rfl
def fH (o : Option Value) : Int × Int := if o.isSome = true then (0, vO o) else (1, 0)
theorem hadF_fH (l : List (Int × Value)) (k : Int) : hadF l k = fH (look l k) := rfl
def fM (c a b : Int) (o : Option Value) : (Int × Int) × Option (Option Value) :=
  if c = 4 then (fH o, none) else if c = 5 then (fH o, some (some (intV a))) else if c = 6 then (fH o, some none)
  else if o.isSome = true then (if vO o = a then ((0, vO o), some (some (intV b))) else ((4, vO o), none)) else ((1, 0), none)
theorem mdM_eq {c k a b : Int} {m : Md} (h4 : 4 ≤ c) (h7 : c ≤ 7) : mdM c k a b m = ((fM c a b (look m.ps k)).1, { m with ps := chg m.ps k (fM c a b (look m.ps k)).2 }) := by
  have hc : c = 4 ∨ c = 5 ∨ c = 6 ∨ c = 7 := by omega
  unfold mdM fM
  rcases hc with rfl | rfl | rfl | rfl
  · rw [if_pos rfl, if_pos rfl]; rfl
  · rw [if_neg (by decide), if_pos rfl, if_neg (by decide), if_pos rfl]; rfl
  · rw [if_neg (by decide), if_neg (by decide), if_pos rfl, if_neg (by decide), if_neg (by decide), if_pos rfl]; rfl
  · rw [if_neg (by decide), if_neg (by decide), if_neg (by decide), if_pos rfl, if_neg (show ¬ (7 : Int) = 4 by decide), if_neg (show ¬ (7 : Int) = 5 by decide), if_neg (show ¬ (7 : Int) = 6 by decide)]
    by_cases h1 : (look m.ps k).isSome = true
    · by_cases h2 : atK m.ps k = a
      · simp only [if_pos h1, if_pos h2, if_pos (show vO (look m.ps k) = a from h2)]; rfl
      · simp only [if_pos h1, if_neg h2, if_neg (show ¬ vO (look m.ps k) = a from h2)]; rfl
    · simp only [if_neg h1]; rfl
def fS (c a : Int) (o : Option Value) : (Int × Int) × Option (Option Value) :=
  if c = 10 then (fH o, some (some (intV a))) else if c = 14 then (fH o, some none)
  else if o.isSome = true then
    (if c = 11 then (if vO o = 0 then ((3, 0), none) else ((0, vO o + -1), some (some (intV (vO o + -1)))))
     else if c = 12 then (if vO o = 1023 then ((2, 0), none) else ((0, vO o + 1), some (some (intV (vO o + 1)))))
     else ((0, vO o), none))
  else ((1, 0), none)
theorem mdS_eq {c k a : Int} {m : Md} : mdS c k a m = ((fS c a (look m.ss k)).1, { m with ss := chg m.ss k (fS c a (look m.ss k)).2 }) := by
  unfold mdS fS stepS
  by_cases h1 : c = 10
  · simp only [if_pos h1]; rfl
  by_cases h2 : c = 14
  · simp only [if_neg h1, if_pos h2]; rfl
  by_cases h3 : (look m.ss k).isSome = true
  · by_cases h4 : c = 11
    · by_cases h5 : atK m.ss k = 0
      · simp only [if_neg h1, if_neg h2, if_pos h3, if_pos h4, if_pos h5, if_pos (show vO (look m.ss k) = 0 from h5)]; rfl
      · simp only [if_neg h1, if_neg h2, if_pos h3, if_pos h4, if_neg h5, if_neg (show ¬ vO (look m.ss k) = 0 from h5)]; rfl
    · by_cases h6 : c = 12
      · by_cases h5 : atK m.ss k = 1023
        · simp only [if_neg h1, if_neg h2, if_pos h3, if_neg h4, if_pos h6, if_pos h5, if_pos (show vO (look m.ss k) = 1023 from h5)]; rfl
        · simp only [if_neg h1, if_neg h2, if_pos h3, if_neg h4, if_pos h6, if_neg h5, if_neg (show ¬ vO (look m.ss k) = 1023 from h5)]; rfl
      · simp only [if_neg h1, if_neg h2, if_pos h3, if_neg h4, if_neg h6]; rfl
  · simp only [if_neg h1, if_neg h2, if_neg h3]; rfl
def fQ (c a : Int) (nq : Bool) (q : List Int) : (Int × Int) × (Bool × List Int) :=
  if c = 3 then ((0, (q.length : Int)), (nq, q)) else if c = 1 then (if 256 ≤ q.length then ((2, 0), (nq, q)) else ((0, (q.length : Int) + 1), (false, q ++ [a])))
  else match q with
    | [] => ((1, 0), (nq, q))
    | n :: r => ((0, n), (nq, r))
theorem mdQ_eq {c a : Int} {m : Md} : mdQ c a m = ((fQ c a m.nilq m.q).1, { m with nilq := (fQ c a m.nilq m.q).2.1, q := (fQ c a m.nilq m.q).2.2 }) := by
  obtain ⟨nq, q, ps, ss⟩ := m
  unfold mdQ fQ
  by_cases h1 : c = 3
  · simp only [if_pos h1]
  by_cases h2 : c = 1
  · by_cases h3 : 256 ≤ q.length
    · simp only [if_neg h1, if_pos h2, if_pos h3]
    · simp only [if_neg h1, if_pos h2, if_neg h3]
  · simp only [if_neg h1, if_neg h2]
    cases q <;> rfl
/-- The part of a model upon which an operation works: 0 none. -/
def partF (c k a b : Int) : Int :=
  if ¬ RightO c k a b ∨ c = 0 ∨ c = 8 ∨ c = 9 then 0 else if c ≤ 3 then 1 else if c ≤ 9 then 2 + k else 1000 + k
inductive Kind (c k a b : Int) : Int → Prop
  | q (h : ∀ m, mdF c k a b m = mdQ c a m) : Kind c k a b 1
  | m (h : ∀ m, mdF c k a b m = mdM c k a b m) (h4 : 4 ≤ c) (h7 : c ≤ 7) (k0 : 0 ≤ k) (k1 : k ≤ 255) : Kind c k a b (2 + k)
  | s (h : ∀ m, mdF c k a b m = mdS c k a m) (k0 : 0 ≤ k) (k1 : k ≤ 255) : Kind c k a b (1000 + k)
theorem kind_of {c k a b : Int} (h : partF c k a b ≠ 0) : Kind c k a b (partF c k a b) := by
  unfold partF at h ⊢
  split at h
  · exact absurd rfl h
  rename_i hn
  rw [if_neg hn]
  simp only [not_or, Decidable.not_not] at hn
  obtain ⟨hr, h0, h8, h9⟩ := hn
  have c0 := hr.c0
  split at h
  · rename_i h3
    rw [if_pos h3]
    exact .q fun m => by unfold mdF; rw [if_pos ⟨hr, h0⟩, if_pos h3]
  · rename_i h3
    rw [if_neg h3]
    split at h
    · rename_i h9'
      rw [if_pos h9']
      exact .m (fun m => by unfold mdF; rw [if_pos ⟨hr, h0⟩, if_neg h3, if_pos h9']) (by omega) (by omega) hr.k0 hr.k1
    · rename_i h9'
      rw [if_neg h9']
      exact .s (fun m => by unfold mdF; rw [if_pos ⟨hr, h0⟩, if_neg h3, if_neg h9']) hr.k0 hr.k1
structure Apart (m : Md) (f g : Md → (Int × Int) × Md) : Prop where
  one : (f m).1 = (f (g m).2).1
  two : (g (f m).2).1 = (g m).1
  same : SameP (g (f m).2).2 (f (g m).2).2
theorem two_chg {l : List (Int × Value)} (hl : Keys1 l) {k j : Int} (hne : k ≠ j) (c d : Option (Option Value)) : mapsEq (chg (chg l k c) j d) (chg (chg l j d) k c) := by
  refine mapsEq_of (chg_keys1 (chg_keys1 hl)) (chg_keys1 (chg_keys1 hl)) fun x => ?_
  rw [look_chg (chg_keys1 hl), look_chg (chg_keys1 hl), look_chg hl, look_chg hl, look_chg hl, look_chg hl]
  by_cases h1 : j = x
  · subst h1
    rw [if_pos rfl, if_neg hne, if_neg hne, if_pos rfl]
  · rw [if_neg h1, if_neg h1]
    by_cases h2 : k = x
    · subst h2
      rw [if_pos rfl, if_pos rfl, if_neg h1]
    · rw [if_neg h2, if_neg h2]
theorem mdF_apart {c k a b c' k' a' b' : Int} {m : Md} (h : MdOk m) (h1 : partF c k a b ≠ 0) (h2 : partF c' k' a' b' ≠ 0) (hne : partF c k a b ≠ partF c' k' a' b') : Apart m (mdF c k a b) (mdF c' k' a' b') := by
  have A := kind_of h1
  have B := kind_of h2
  have key : ∀ p q, Kind c k a b p → Kind c' k' a' b' q → p ≠ q → Apart m (mdF c k a b) (mdF c' k' a' b') := by
    intro p q A B hpq
    have hp := h.ps.once
    have hs := h.ss.once
    cases A with
    | q ha => cases B with
      | q hb => exact absurd rfl hpq
      | m hb h4 h7 _ _ =>
        refine ⟨?_, ?_, ?_⟩
        · rw [ha, ha, hb, mdM_eq h4 h7, mdQ_eq, mdQ_eq]
        · rw [ha, hb, hb, mdM_eq h4 h7, mdM_eq h4 h7, mdQ_eq]
        · rw [ha, ha, hb, hb, mdM_eq h4 h7, mdM_eq h4 h7, mdQ_eq, mdQ_eq]
          exact ⟨rfl, mapsEq_refl (chg_keys1 hp), mapsEq_refl hs⟩
      | s hb _ _ =>
        refine ⟨?_, ?_, ?_⟩
        · rw [ha, ha, hb, mdS_eq, mdQ_eq, mdQ_eq]
        · rw [ha, hb, hb, mdS_eq, mdS_eq, mdQ_eq]
        · rw [ha, ha, hb, hb, mdS_eq, mdS_eq, mdQ_eq, mdQ_eq]
          exact ⟨rfl, mapsEq_refl hp, mapsEq_refl (chg_keys1 hs)⟩
    | m ha h4 h7 k0 k1 => cases B with
      | q hb =>
        refine ⟨?_, ?_, ?_⟩
        · rw [ha, ha, hb, mdM_eq h4 h7, mdM_eq h4 h7, mdQ_eq]
        · rw [ha, hb, hb, mdM_eq h4 h7, mdQ_eq, mdQ_eq]
        · rw [ha, ha, hb, hb, mdM_eq h4 h7, mdM_eq h4 h7, mdQ_eq, mdQ_eq]
          exact ⟨rfl, mapsEq_refl (chg_keys1 hp), mapsEq_refl hs⟩
      | m hb g4 g7 _ _ =>
        have hk : k ≠ k' := fun e => hpq (by rw [e])
        have hk' : k' ≠ k := fun e => hk e.symm
        refine ⟨?_, ?_, ?_⟩
        · rw [ha, ha, hb, mdM_eq h4 h7, mdM_eq h4 h7, mdM_eq g4 g7]
          simp only [look_chg hp]
          rw [if_neg hk']
        · rw [ha, hb, hb, mdM_eq h4 h7, mdM_eq g4 g7, mdM_eq g4 g7]
          simp only [look_chg hp]
          rw [if_neg hk]
        · rw [ha, ha, hb, hb, mdM_eq h4 h7, mdM_eq h4 h7, mdM_eq g4 g7, mdM_eq g4 g7]
          simp only [look_chg hp]
          rw [if_neg hk, if_neg hk']
          exact ⟨rfl, two_chg hp hk _ _, mapsEq_refl hs⟩
      | s hb _ _ =>
        refine ⟨?_, ?_, ?_⟩
        · rw [ha, ha, hb, mdM_eq h4 h7, mdM_eq h4 h7, mdS_eq]
        · rw [ha, hb, hb, mdM_eq h4 h7, mdS_eq, mdS_eq]
        · rw [ha, ha, hb, hb, mdM_eq h4 h7, mdM_eq h4 h7, mdS_eq, mdS_eq]
          exact ⟨rfl, mapsEq_refl (chg_keys1 hp), mapsEq_refl (chg_keys1 hs)⟩
    | s ha k0 k1 => cases B with
      | q hb =>
        refine ⟨?_, ?_, ?_⟩
        · rw [ha, ha, hb, mdS_eq, mdS_eq, mdQ_eq]
        · rw [ha, hb, hb, mdS_eq, mdQ_eq, mdQ_eq]
        · rw [ha, ha, hb, hb, mdS_eq, mdS_eq, mdQ_eq, mdQ_eq]
          exact ⟨rfl, mapsEq_refl hp, mapsEq_refl (chg_keys1 hs)⟩
      | m hb g4 g7 _ _ =>
        refine ⟨?_, ?_, ?_⟩
        · rw [ha, ha, hb, mdS_eq, mdS_eq, mdM_eq g4 g7]
        · rw [ha, hb, hb, mdS_eq, mdM_eq g4 g7, mdM_eq g4 g7]
        · rw [ha, ha, hb, hb, mdS_eq, mdS_eq, mdM_eq g4 g7, mdM_eq g4 g7]
          exact ⟨rfl, mapsEq_refl (chg_keys1 hp), mapsEq_refl (chg_keys1 hs)⟩
      | s hb _ _ =>
        have hk : k ≠ k' := fun e => hpq (by rw [e])
        have hk' : k' ≠ k := fun e => hk e.symm
        refine ⟨?_, ?_, ?_⟩
        · rw [ha, ha, hb, mdS_eq, mdS_eq, mdS_eq]
          simp only [look_chg hs]
          rw [if_neg hk']
        · rw [ha, hb, hb, mdS_eq, mdS_eq, mdS_eq]
          simp only [look_chg hs]
          rw [if_neg hk]
        · rw [ha, ha, hb, hb, mdS_eq, mdS_eq, mdS_eq, mdS_eq]
          simp only [look_chg hs]
          rw [if_neg hk, if_neg hk']
          exact ⟨rfl, mapsEq_refl hp, two_chg hs hk _ _⟩
  exact key _ _ A B hne
end Go.Proofs.Ytnkikhhiaecebaa
