/- The executor: a state that has come to a loop's head, or to a cut. -/
import Derived.Test.YtohijcgbfcahhaaSymMatch
namespace Go.Proofs.Ytohijcgbfcahhaa
open Go Go.RowKit

abbrev Ren := List (Nat × Nat)
def Ren.app : Ren → Nat → Nat
  | [], n => n
  | (a, b) :: r, n => if a = n then b else Ren.app r n
def Ren.has : Ren → Nat → Bool
  | [], _ => false
  | (a, _) :: r, n => if a = n then true else Ren.has r n
def addR (N n m : Nat) (r : Ren) : Ren := bif Nat.ble N n && !(r.has n) then (n, m) :: r else r
/-- All that is renamed is at least N. -/
def Ren.Low (N : Nat) (r : Ren) : Prop := ∀ n, n < N → r.app n = n
theorem addR_low {N n m : Nat} {r : Ren} (h : r.Low N) : (addR N n m r).Low N := by
  unfold addR
  cases hc : Nat.ble N n && !(r.has n)
  · exact h
  · simp only [cond_true]
    simp only [Bool.and_eq_true, Nat.ble_eq] at hc
    intro k hk
    simp only [Ren.app]
    rw [if_neg (by omega)]
    exact h k hk
def addAll (N : Nat) : List Nat → List Nat → Ren → Ren
  | n :: l, m :: k, r => addAll N l k (addR N n m r)
  | _, _, r => r
theorem addAll_low {N : Nat} : ∀ (l k : List Nat) {r : Ren}, r.Low N → (addAll N l k r).Low N
  | [], _, _, h => by simpa [addAll] using h
  | _ :: _, [], _, h => by simpa [addAll] using h
  | n :: l, m :: k, r, h => by simp only [addAll]; exact addAll_low l k (addR_low h)

section
variable {E : EXT} {P : Program}

/-- Which names stand for which: those of the one in their order against those of the other. -/
def infSlots (N : Nat) (f : SF) : List (Nat × SV) → Ren → Ren
  | [], r => r
  | (t, v) :: l, r => infSlots N f l (addAll N v.names (f.at t).names r)
def infHeap (N : Nat) (h : SH E) : List (Nat × SO E) → Ren → Ren
  | [], r => r
  | (n, o) :: l, r => match h.get (r.app n) with
    | some o' => infHeap N h l (addAll N o.names o'.names r)
    | none => infHeap N h l r
theorem infSlots_low {N : Nat} {f : SF} : ∀ (l : List (Nat × SV)) {r : Ren}, r.Low N → (infSlots N f l r).Low N
  | [], _, h => h
  | (t, v) :: l, r, h => by simp only [infSlots]; exact infSlots_low l (addAll_low _ _ h)
theorem infHeap_low {N : Nat} {h : SH E} : ∀ (l : List (Nat × SO E)) {r : Ren}, r.Low N → (infHeap N h l r).Low N
  | [], _, h => h
  | (n, o) :: l, r, hr => by
    simp only [infHeap]
    split
    · exact infHeap_low l (addAll_low _ _ hr)
    · exact infHeap_low l hr
def slotOf : List (Nat × SV) → Nat → Option SV
  | [], _ => none
  | (a, v) :: l, t => if a = t then some v else slotOf l t
/-- The frame at the head: what is listed, what is written and not listed (anything), the rest as it was. -/
def headF (W : Nat → Bool) (L : List (Nat × SV)) (ρ : Nat → Value) (f0 : SF) : SF :=
  SF.tab f0.n fun t => match slotOf L t with | some v => v | none => bif W t then .c (.raw (ρ t)) else f0.t.get t
/-- All that isn't listed, nor written, is as it was. -/
def sameT (W : Nat → Bool) (L : List (Nat × SV)) (f g : ST) : List Nat → Prop → Prop
  | [], q => q
  | t :: l, q => match slotOf L t with
    | some _ => sameT W L f g l q
    | none => bif W t then sameT W L f g l q else sameV (f.get t) (g.get t) (sameT W L f g l q)
def sameF (W : Nat → Bool) (L : List (Nat × SV)) (f g : SF) (q : Prop) : Prop := if f.n = g.n then sameT W L f.t g.t (List.range f.n) q else Stuck 568
theorem sameT_ok {W : Nat → Bool} {L : List (Nat × SV)} {f g : ST} : ∀ {l : List Nat} {q : Prop}, sameT W L f g l q → q ∧ ∀ t ∈ l, slotOf L t = none → W t = false → ∀ ν, (f.get t).den ν = (g.get t).den ν
  | [], _, h => ⟨h, by intro t ht; cases ht⟩
  | t :: l, q, h => by
    simp only [sameT] at h
    have key : ∀ {q}, sameT W L f g l q → (slotOf L t = none → W t = false → ∀ ν, (f.get t).den ν = (g.get t).den ν) → q ∧ ∀ u ∈ t :: l, slotOf L u = none → W u = false → ∀ ν, (f.get u).den ν = (g.get u).den ν := by
      intro q h ht
      obtain ⟨h1, h2⟩ := sameT_ok h
      refine ⟨h1, fun u hu => ?_⟩
      cases hu with
      | head => exact ht
      | tail _ hm => exact h2 u hm
    split at h
    · rename_i v hv
      exact key h fun e => by rw [hv] at e; cases e
    · cases hw : W t <;> rw [hw] at h
      · exact key (sameV_den id h).2 fun _ _ ν => (sameV_den ν h).1
      · exact key h fun _ e => by rw [hw] at e; cases e
theorem sameF_ok {W : Nat → Bool} {L : List (Nat × SV)} {f g : SF} {q : Prop} (h : sameF W L f g q) : f.n = g.n ∧ q ∧ ∀ t, t < f.n → slotOf L t = none → W t = false → ∀ ν, (f.t.get t).den ν = (g.t.get t).den ν := by
  unfold sameF at h
  split at h
  · rename_i hn
    obtain ⟨h1, h2⟩ := sameT_ok h
    exact ⟨hn, h1, fun t ht => h2 t (List.mem_range.2 ht)⟩
  · exact h.elim
def slotsEq (τ : Nat → Nat) (f : SF) : List (Nat × SV) → Prop → Prop
  | [], q => q
  | (t, v) :: l, q => sameV (v.ren τ) (f.at t) (slotsEq τ f l q)
def heapEq (τ : Nat → Nat) (h : SH E) : List (Nat × SO E) → Prop → Prop
  | [], q => q
  | (n, o) :: l, q => (match h.get (τ n) with | some o' => eqO (o.ren τ) o' | none => Stuck 520) ∧ heapEq τ h l q
theorem slotsEq_ok {τ : Nat → Nat} {f : SF} : ∀ {L : List (Nat × SV)} {q : Prop}, slotsEq τ f L q → q
  | [], _, h => h
  | (t, v) :: l, q, h => slotsEq_ok (sameV_den id h).2
def Close (N : Nat) (W : Nat → Bool) (f0 : SF) (keep : SH E) (I : List (Nat × SV) × List (Nat × SO E)) (f : SF) (h : SH E) : Prop :=
  let τ := Ren.app (infHeap N h I.2 (infSlots N f I.1 []))
  bif nodupB (I.2.map (fun p => τ p.1) ++ List.map (fun p => p.1) keep) then
    sameF W I.1 f f0 (subH keep h (slotsEq τ f I.1 (heapEq τ h I.2 True))) else Stuck 521
/-- What stays is named below N. -/
def lowB (N : Nat) (W : Nat → Bool) (L : List (Nat × SV)) (f0 : SF) (keep : SH E) : Bool :=
  (List.range f0.n).all (fun t => match slotOf L t with | some _ => true | none => W t || (f0.t.get t).names.all (fun m => Nat.blt m N)) && (SH.names keep).all (fun m => Nat.blt m N)
theorem slotsEq_at {τ : Nat → Nat} {f : SF} : ∀ {L : List (Nat × SV)} {q : Prop}, slotsEq τ f L q → ∀ {t : Nat} {v : SV}, slotOf L t = some v → ∀ μ, (v.ren τ).den μ = (f.at t).den μ
  | [], _, _, _, _, h => by simp [slotOf] at h
  | (a, u) :: L, q, hs, t, v, h => by
    intro μ
    simp only [slotOf] at h
    split at h
    · rename_i e
      cases h
      subst e
      exact (sameV_den μ hs).1
    · exact slotsEq_at (sameV_den id hs).2 h μ
theorem headF_sound {W : Nat → Bool} {L : List (Nat × SV)} {τ μ : Nat → Nat} {N : Nat} {f f0 : SF} {q0 q : Prop} (hτ : ∀ n, n < N → τ n = n) (hs : slotsEq τ f L q0) (hm : sameF W L f f0 q)
    (hn : (List.range f0.n).all (fun t => match slotOf L t with | some _ => true | none => W t || (f0.t.get t).names.all (fun m => Nat.blt m N)) = true) :
    actOf μ f = actOf (μ ∘ τ) (headF W L (fun t => (f.at t).den μ) f0) := by
  obtain ⟨e, _, hm⟩ := sameF_ok hm
  refine actOf_of e fun t ht => ?_
  unfold headF
  rw [SF.tab_get (by rw [← e]; exact ht)]
  have hn := List.all_eq_true.1 hn t (List.mem_range.2 (by rw [← e]; exact ht))
  have hx := SF.at_lt ht
  cases hl : slotOf L t with
  | some v =>
    have := slotsEq_at hs hl μ
    rw [SV.den_ren, hx] at this
    exact this.symm
  | none =>
    rw [hl] at hn
    simp only at hn ⊢
    cases hw : W t <;> rw [hw] at hn
    · simp only [cond_false, Bool.false_or] at hn ⊢
      rw [hm t ht hl hw μ]
      refine SV.den_eq _ fun n hn' => ?_
      have := List.all_eq_true.1 hn n hn'
      simp only [Nat.blt_eq] at this
      simp [hτ n this]
    · simp only [cond_true, SV.den, SC.den, hx]
def imgOf (τ : Nat → Nat) (h : SH E) : List (Nat × SO E) → SH E
  | [] => []
  | (n, _) :: l => match h.get (τ n) with
    | some o' => (τ n, o') :: imgOf τ h l
    | none => imgOf τ h l
theorem imgOf_get {τ : Nat → Nat} {h : SH E} : ∀ (l : List (Nat × SO E)), ∀ p ∈ imgOf τ h l, h.get p.1 = some p.2
  | [], _, hp => by simp [imgOf] at hp
  | (n, o) :: l, p, hp => by
    simp only [imgOf] at hp
    split at hp
    · rename_i o' ho
      cases hp with
      | head => exact ho
      | tail _ hm => exact imgOf_get l p hm
    · exact imgOf_get l p hp
theorem imgOf_names {τ : Nat → Nat} {h : SH E} : ∀ {l : List (Nat × SO E)} {q : Prop}, heapEq τ h l q → List.map (fun p => p.1) (imgOf τ h l) = l.map (fun p => τ p.1)
  | [], _, _ => rfl
  | (n, o) :: l, q, he => by
    simp only [heapEq] at he
    simp only [imgOf]
    split
    · rename_i o' ho
      simp only [List.map_cons, List.cons.injEq, true_and]
      exact imgOf_names he.2
    · rename_i ho
      rw [ho] at he
      exact he.1.elim
theorem imgOf_den {τ μ : Nat → Nat} {h : SH E} {w : World} : ∀ {l : List (Nat × SO E)} {q : Prop} {Q : Assn}, heapEq τ h l q → Sat w (SH.den μ (imgOf τ h l) * Q) → Sat w (SH.den (μ ∘ τ) l * Q)
  | [], _, _, _, H => H
  | (n, o) :: l, q, Q, he, H => by
    simp only [heapEq] at he
    simp only [imgOf] at H
    split at H
    · rename_i o' ho
      rw [ho] at he
      simp only [SH.den] at H ⊢
      rw [Assn.mul_assoc] at H
      have h1 := eqO_den μ _ he.1 H
      rw [SO.den_ren] at h1
      have h2 : Sat w (SH.den μ (imgOf τ h l) * (o.den (μ ∘ τ) (μ (τ n)) * Q)) := h1.cast (by ac_rfl)
      have h3 := imgOf_den he.2 h2
      exact h3.cast (by simp only [Function.comp]; ac_rfl)
    · rename_i ho
      rw [ho] at he
      exact he.1.elim
theorem SH.den_append {ν : Nat → Nat} : ∀ (a b : SH E), SH.den ν (a ++ b) = SH.den ν a * SH.den ν b
  | [], b => by simp only [List.nil_append, SH.den]; rw [Assn.one_mul]
  | (n, o) :: a, b => by simp only [List.cons_append, SH.den]; rw [SH.den_append a b, Assn.mul_assoc]
theorem Close_sound {N : Nat} {W : Nat → Bool} {f0 : SF} {keep : SH E} {I : List (Nat × SV) × List (Nat × SO E)} {f : SF} {h : SH E} (hc : Close N W f0 keep I f h) (hl : lowB N W I.1 f0 keep = true)
    {μ : Nat → Nat} {w : World} {R : Assn} (H : Sat w (h.den μ * R)) : ∃ ν ρ, Agree N μ ν ∧ actOf μ f = actOf ν (headF W I.1 ρ f0) ∧ Sat w (SH.den ν (I.2 ++ keep) * R) := by
  unfold Close at hc
  simp only at hc
  have hlow : (infHeap N h I.2 (infSlots N f I.1 [])).Low N := infHeap_low _ (infSlots_low _ (fun _ _ => rfl))
  generalize infHeap N h I.2 (infSlots N f I.1 []) = r at *
  cases hnd : nodupB (I.2.map (fun p => r.app p.1) ++ List.map (fun p => p.1) keep) <;> rw [hnd] at hc
  · exact hc.elim
  simp only [cond_true] at hc
  have hm := hc
  have hc := (sameF_ok hc).2.1
  obtain ⟨⟨keep', k1, k2, k3⟩, hc⟩ := subH_img hc
  have hs := hc
  have hh := slotsEq_ok hc
  simp only [lowB, Bool.and_eq_true] at hl
  refine ⟨μ ∘ r.app, fun t => (f.at t).den μ, fun n hn => by simp [hlow n hn], ?_, ?_⟩
  · exact headF_sound hlow hs hm hl.1
  · have h1 : ∀ p ∈ (imgOf r.app h I.2 ++ keep' : SH E), h.get p.1 = some p.2 := fun p hp => by
      rcases List.mem_append.1 hp with hp | hp
      · exact imgOf_get _ p hp
      · exact k2 p hp
    have h2 : nodupB (List.map (fun p => p.1) (imgOf r.app h I.2 ++ keep' : SH E)) = true := by rw [List.map_append, imgOf_names hh, k1]; exact hnd
    have := subEq_sat h1 h2 H
    rw [SH.den_append, Assn.mul_assoc, k3] at this
    have this := imgOf_den hh this
    rw [SH.den_append, Assn.mul_assoc]
    have hkk : SH.den μ keep = SH.den (μ ∘ r.app) keep := SH.den_eq keep fun n hn => by
      have := List.all_eq_true.1 hl.2 n hn
      simp only [Nat.blt_eq] at this
      simp [hlow n this]
    rw [← hkk]
    exact this
end
end Go.Proofs.Ytohijcgbfcahhaa
