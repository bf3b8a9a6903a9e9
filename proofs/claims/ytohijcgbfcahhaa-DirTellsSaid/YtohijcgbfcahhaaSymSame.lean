/- The executor: two states of which the one is to be the other; what is known to be the same is left out of what is to be shown. -/
import Derived.Test.YtohijcgbfcahhaaSymCode
namespace Go.Proofs.Ytohijcgbfcahhaa
open Go Go.RowKit

def eqI : Int → Int → Bool
  | .ofNat a, .ofNat b => Nat.beq a b
  | .negSucc a, .negSucc b => Nat.beq a b
  | _, _ => false
theorem eqI_eq {a b : Int} (h : eqI a b = true) : a = b := by
  cases a <;> cases b <;> simp only [eqI, Nat.beq_eq] at h <;> first | (rw [h]) | cases h
def beqB : Bool → Bool → Bool
  | true, true => true
  | false, false => true
  | _, _ => false
theorem beqB_eq {a b : Bool} (h : beqB a b = true) : a = b := by cases a <;> cases b <;> first | rfl | cases h

mutual
def sameC : SC → SC → Prop → Prop
  | .int true k a _, .int true k' b _, q => if k = k' then (bif eqI a b then q else Stuck 550) else Stuck 550
  | .int _ k a _, .int _ k' b _, q => if k = k' then (a = b ∧ q) else Stuck 550
  | .boo true a, .boo true b, q => bif beqB a b then q else Stuck 551
  | .boo _ a, .boo _ b, q => a = b ∧ q
  | .ptr n o, .ptr n' o', q => if n = n' then (if o = o' then q else Stuck 552) else Stuck 552
  | .elp n i k f, .elp n' i' k' f', q => if n = n' then (if k = k' then (if f = f' then (i = i' ∧ q) else Stuck 553) else Stuck 553) else Stuck 553
  | .sli n k _ o true len cap, .sli n' k' _ o' true len' cap', q => if n = n' then (if k = k' then (if len = len' then (o = o' ∧ cap = cap' ∧ q) else Stuck 554) else Stuck 554) else Stuck 554
  | .sli n k _ o _ len cap, .sli n' k' _ o' _ len' cap', q => if n = n' then (if k = k' then (o = o' ∧ len = len' ∧ cap = cap' ∧ q) else Stuck 554) else Stuck 554
  | .nls, .nls, q => q
  | .map n, .map n', q => if n = n' then q else Stuck 555
  | .fn f a c, .fn f' a' c', q => if f = f' then sameL a a' (sameL c c' q) else Stuck 556
  | .ifc t x, .ifc t' x', q => if t = t' then sameC x x' q else Stuck 557
  | .sliv a _ n c, .sliv a' _ n' c', q => a = a' ∧ n = n' ∧ c = c' ∧ q
  | .ptv a, .ptv a', q => a = a' ∧ q
  | .raw v, .raw v', q => v = v' ∧ q
  | _, _, _ => Stuck 558
termination_by structural x => x
def sameL : List SC → List SC → Prop → Prop
  | [], [], q => q
  | x :: l, y :: m, q => sameC x y (sameL l m q)
  | _, _, _ => Stuck 559
termination_by structural l => l
end
mutual
theorem sameC_den (ν : Nat → Nat) : ∀ {x y : SC} {q : Prop}, sameC x y q → x.den ν = y.den ν ∧ q
  | .int true k a _, y, q, h => by
    cases y <;> try (simp only [sameC] at h; exact h.elim)
    rename_i l k' b _
    cases l
    · simp only [sameC] at h
      split at h
      · rename_i hk; subst hk; simp [SC.den, h.1, h.2]
      · exact h.elim
    · simp only [sameC] at h
      split at h
      · rename_i hk
        subst hk
        cases hb : eqI a b <;> rw [hb] at h
        · exact h.elim
        · exact ⟨by simp [SC.den, eqI_eq hb], h⟩
      · exact h.elim
  | .int false k a _, y, q, h => by
    cases y <;> try (simp only [sameC] at h; exact h.elim)
    simp only [sameC] at h
    split at h
    · rename_i hk; subst hk; simp [SC.den, h.1, h.2]
    · exact h.elim
  | .boo true a, y, q, h => by
    cases y <;> try (simp only [sameC] at h; exact h.elim)
    rename_i l b
    cases l
    · simp only [sameC] at h
      simp [SC.den, h.1, h.2]
    · simp only [sameC] at h
      cases hb : beqB a b <;> rw [hb] at h
      · exact h.elim
      · exact ⟨by simp [SC.den, beqB_eq hb], h⟩
  | .boo false a, y, q, h => by
    cases y <;> try (simp only [sameC] at h; exact h.elim)
    simp only [sameC] at h
    simp [SC.den, h.1, h.2]
  | .ptr n o, y, q, h => by
    cases y <;> simp only [sameC] at h <;> try exact h.elim
    split at h
    · split at h
      · simp [SC.den, *]
      · exact h.elim
    · exact h.elim
  | .elp n i k f, y, q, h => by
    cases y <;> simp only [sameC] at h <;> try exact h.elim
    split at h
    · split at h
      · split at h
        · simp [SC.den, *]
        · exact h.elim
      · exact h.elim
    · exact h.elim
  | .sli n k _ o true len cap, y, q, h => by
    cases y <;> try (simp only [sameC] at h; exact h.elim)
    rename_i n' k' _ o' l len' cap'
    cases l
    · simp only [sameC] at h
      split at h
      · split at h
        · simp [SC.den, *]
        · exact h.elim
      · exact h.elim
    · simp only [sameC] at h
      split at h
      · split at h
        · split at h
          · simp [SC.den, *]
          · exact h.elim
        · exact h.elim
      · exact h.elim
  | .sli n k _ o false len cap, y, q, h => by
    cases y <;> try (simp only [sameC] at h; exact h.elim)
    simp only [sameC] at h
    split at h
    · split at h
      · simp [SC.den, *]
      · exact h.elim
    · exact h.elim
  | .nls, y, q, h => by cases y <;> simp only [sameC] at h <;> first | exact h.elim | exact ⟨rfl, h⟩
  | .map n, y, q, h => by
    cases y <;> simp only [sameC] at h <;> try exact h.elim
    split at h
    · simp [SC.den, *]
    · exact h.elim
  | .fn f a c, y, q, h => by
    cases y <;> simp only [sameC] at h <;> try exact h.elim
    split at h
    · rename_i hf
      obtain ⟨h1, h⟩ := sameL_den ν h
      obtain ⟨h2, h⟩ := sameL_den ν h
      simp only [SC.den]
      rw [hf, h1, h2]
      exact ⟨rfl, h⟩
    · exact h.elim
  | .ifc t x, y, q, h => by
    cases y <;> simp only [sameC] at h <;> try exact h.elim
    split at h
    · rename_i ht
      obtain ⟨h1, h⟩ := sameC_den ν h
      simp only [SC.den]
      rw [ht, h1]
      exact ⟨rfl, h⟩
    · exact h.elim
  | .sliv a _ n c, y, q, h => by cases y <;> simp only [sameC] at h <;> first | exact h.elim | simp [SC.den, h]
  | .ptv a, y, q, h => by cases y <;> simp only [sameC] at h <;> first | exact h.elim | simp [SC.den, h]
  | .raw v, y, q, h => by cases y <;> simp only [sameC] at h <;> first | exact h.elim | simp [SC.den, h]
theorem sameL_den (ν : Nat → Nat) : ∀ {l m : List SC} {q : Prop}, sameL l m q → SC.denL ν l = SC.denL ν m ∧ q
  | [], m, q, h => by cases m <;> simp only [sameL] at h <;> first | exact ⟨rfl, h⟩ | exact h.elim
  | x :: l, m, q, h => by
    cases m <;> simp only [sameL] at h
    · exact h.elim
    · obtain ⟨h1, h⟩ := sameC_den ν h
      obtain ⟨h2, h⟩ := sameL_den ν h
      simp only [SC.denL]
      rw [h1, h2]
      exact ⟨rfl, h⟩
end
def sameP : List (Bool × List SC) → List (Bool × List SC) → Prop → Prop
  | [], [], q => q
  | (b, l) :: x, (b', l') :: y, q => if b = b' then sameL l l' (sameP x y q) else Stuck 560
  | _, _, _ => Stuck 560
theorem partDen_len {ν : Nat → Nat} {b : Bool} {l m : List SC} (h : SC.denL ν l = SC.denL ν m) : partDen ν (b, l) = partDen ν (b, m) := by
  cases b with
  | true => simp only [partDen]; rw [h]
  | false =>
    rw [denL_map, denL_map] at h
    match l, m, h with
    | [], [], _ => rfl
    | [x], [y], h => simp only [List.map_cons, List.map_nil, List.cons.injEq, and_true] at h; exact h
    | _ :: _ :: _, _ :: _ :: _, _ => rfl
    | [], _ :: _, h => simp at h
    | _ :: _, [], h => simp at h
    | [_], _ :: _ :: _, h => simp at h
    | _ :: _ :: _, [_], h => simp at h
theorem sameP_den (ν : Nat → Nat) : ∀ {x y : List (Bool × List SC)} {q : Prop}, sameP x y q → x.map (partDen ν) = y.map (partDen ν) ∧ q
  | [], y, q, h => by cases y <;> simp only [sameP] at h <;> first | exact ⟨rfl, h⟩ | exact h.elim
  | (b, l) :: x, y, q, h => by
    cases y with
    | nil => simp only [sameP] at h; exact h.elim
    | cons p y =>
      obtain ⟨b', l'⟩ := p
      simp only [sameP] at h
      split at h
      · rename_i hb
        subst hb
        obtain ⟨h1, h⟩ := sameL_den ν h
        obtain ⟨h2, h⟩ := sameP_den ν h
        simp only [List.map_cons]
        rw [partDen_len h1, h2]
        exact ⟨rfl, h⟩
      · exact h.elim
def sameV : SV → SV → Prop → Prop
  | .c x, .c y, q => sameC x y q
  | .agg l, .agg m, q => sameL l m q
  | .tup l, .tup m, q => sameP l m q
  | _, _, _ => Stuck 561
theorem sameV_den (ν : Nat → Nat) {x y : SV} {q : Prop} (h : sameV x y q) : x.den ν = y.den ν ∧ q := by
  unfold sameV at h
  split at h
  · exact sameC_den ν h
  · obtain ⟨h1, h⟩ := sameL_den ν h
    simp only [SV.den]; rw [h1]; exact ⟨rfl, h⟩
  · obtain ⟨h1, h⟩ := sameP_den ν h
    simp only [SV.den]; rw [h1]; exact ⟨rfl, h⟩
  · exact h.elim
section
variable {E : EXT}
def sameO : SO E → SO E → Prop → Prop
  | .cells l t, .cells l' t', q => if t = t' then sameL l l' q else Stuck 562
  | .row t k n c l, .row t' k' n' c' l', q => if t = t' then (if k = k' then (if n = n' then (c = c' ∧ sameL l l' q) else Stuck 563) else Stuck 563) else Stuck 563
  | .ints t k n c f, .ints t' k' n' c' f', q => if t = t' then (if k = k' then (n = n' ∧ c = c' ∧ f = f' ∧ q) else Stuck 564) else Stuck 564
  | .vals t k n c f, .vals t' k' n' c' f', q => if t = t' then (if k = k' then (n = n' ∧ c = c' ∧ f = f' ∧ q) else Stuck 565) else Stuck 565
  | .mp l, .mp l', q => l = l' ∧ q
  | .ext x, .ext y, q => x = y ∧ q
  | _, _, _ => Stuck 566
theorem sameO_den {x y : SO E} {q : Prop} (h : sameO x y q) : (∀ ν b, x.den ν b = y.den ν b) ∧ q := by
  unfold sameO at h
  split at h
  · split at h
    · rename_i ht; subst ht
      exact ⟨fun ν b => by simp only [SO.den]; rw [(sameL_den ν h).1], (sameL_den id h).2⟩
    · exact h.elim
  · split at h
    · split at h
      · split at h
        · rename_i ht hk hn; subst ht hk hn
          obtain ⟨rfl, h⟩ := h
          exact ⟨fun ν b => by simp only [SO.den]; rw [(sameL_den ν h).1], (sameL_den id h).2⟩
        · exact h.elim
      · exact h.elim
    · exact h.elim
  · split at h
    · split at h
      · rename_i ht hk; subst ht hk
        obtain ⟨rfl, rfl, rfl, h⟩ := h
        exact ⟨fun _ _ => rfl, h⟩
      · exact h.elim
    · exact h.elim
  · split at h
    · split at h
      · rename_i ht hk; subst ht hk
        obtain ⟨rfl, rfl, rfl, h⟩ := h
        exact ⟨fun _ _ => rfl, h⟩
      · exact h.elim
    · exact h.elim
  · obtain ⟨rfl, h⟩ := h; exact ⟨fun _ _ => rfl, h⟩
  · obtain ⟨rfl, h⟩ := h; exact ⟨fun _ _ => rfl, h⟩
  · exact h.elim
/-- The memory h still has what h0 has. -/
def subH : SH E → SH E → Prop → Prop
  | [], _, q => q
  | (n, o) :: h0, h, q => match h.get n with
    | some o' => sameO o o' (subH h0 h q)
    | none => Stuck 567
theorem subH_img : ∀ {h0 h : SH E} {q : Prop}, subH h0 h q → (∃ h1 : SH E, List.map (fun p => p.1) h1 = List.map (fun p => p.1) h0 ∧ (∀ p ∈ h1, h.get p.1 = some p.2) ∧ ∀ ν, h1.den ν = h0.den ν) ∧ q
  | [], _, _, hq => ⟨⟨[], rfl, (by intro p hp; cases hp), fun _ => rfl⟩, hq⟩
  | (n, o) :: h0, h, q, hs => by
    simp only [subH] at hs
    split at hs
    · rename_i o' ho
      obtain ⟨hd, hs⟩ := sameO_den hs
      obtain ⟨⟨h1, e1, e2, e3⟩, hq⟩ := subH_img hs
      refine ⟨⟨(n, o') :: h1, by simp [e1], fun p hp => ?_, fun ν => by simp only [SH.den]; rw [hd, e3]⟩, hq⟩
      cases hp with
      | head => exact ho
      | tail _ hm => exact e2 p hm
    · exact hs.elim
end
end Go.Proofs.Ytohijcgbfcahhaa
