/- ClaimFew: who has passed slots saw that there were others: each slot, one more. No program in sight. -/
import Derived.Test.YtnfpkadepomjjaaBasePl
import Derived.Test.YtnfpkadepomjjaaBaseClm
set_option linter.all false
namespace Go.Proofs.Ytnfpkadepomjjaa

def vAt (r : Nat) : Option Nat → Nat
  | some s => if r ≤ s then 1 else 0
  | none => 0
/-- How many there are that have come to r. -/
def nAt (pos : Nat → Option Nat) (r : Nat) : Nat → Nat
  | 0 => 0
  | n + 1 => nAt pos r n + vAt r (pos n)
theorem nAt_congr {pos pos' : Nat → Option Nat} {r : Nat} : ∀ {n : Nat}, (∀ j, j < n → pos' j = pos j) → nAt pos' r n = nAt pos r n
  | 0, _ => rfl
  | n + 1, h => by
    simp only [nAt]
    rw [nAt_congr fun j hj => h j (Nat.lt_succ_of_lt hj), h n (Nat.lt_succ_self n)]
theorem nAt_put {pos pos' : Nat → Option Nat} {r p : Nat} : ∀ {n : Nat}, (∀ j, j ≠ p → pos' j = pos j) → p < n → nAt pos' r n + vAt r (pos p) = nAt pos r n + vAt r (pos' p)
  | n + 1, h, hp => by
    simp only [nAt]
    by_cases e : p = n
    · subst e
      rw [nAt_congr (pos := pos) (pos' := pos') fun j hj => h j (by omega)]
      omega
    · have := nAt_put (pos := pos) (pos' := pos') (r := r) (n := n) h (by omega)
      rw [h n (fun x => e x.symm)]
      omega
theorem vAt_le (r : Nat) (o : Option Nat) : vAt (r + 1) o ≤ vAt r o := by
  cases o with
  | none => exact Nat.le_refl _
  | some s => simp only [vAt]; split <;> split <;> omega
theorem nAt_mono {pos : Nat → Option Nat} {r : Nat} : ∀ n : Nat, nAt pos (r + 1) n ≤ nAt pos r n
  | 0 => Nat.le_refl _
  | n + 1 => by
    have h1 := nAt_mono (pos := pos) (r := r) n
    have h2 := vAt_le r (pos n)
    simp only [nAt]
    omega
theorem nAt_at {pos : Nat → Option Nat} {s q : Nat} (hq : pos q = some s) : ∀ {n : Nat}, q < n → nAt pos (s + 1) n + 1 ≤ nAt pos s n
  | n + 1, h => by
    simp only [nAt]
    by_cases e : q = n
    · subst e
      have := nAt_mono (pos := pos) (r := s) q
      rw [hq]
      simp only [vAt]
      rw [if_neg (by omega), if_pos (by omega)]
      omega
    · have h1 := nAt_at hq (n := n) (by omega)
      have h2 := vAt_le s (pos n)
      omega
theorem nAt_pos {pos : Nat → Option Nat} {r s q : Nat} (hq : pos q = some s) (hr : r ≤ s) : ∀ {n : Nat}, q < n → 1 ≤ nAt pos r n
  | n + 1, h => by
    simp only [nAt]
    by_cases e : q = n
    · subst e
      rw [hq]
      simp only [vAt]
      rw [if_pos hr]
      omega
    · have := nAt_pos hq hr (n := n) (by omega)
      omega
theorem nAt_le {pos : Nat → Option Nat} {r : Nat} : ∀ n : Nat, nAt pos r n ≤ n
  | 0 => Nat.le_refl _
  | n + 1 => by
    have := nAt_le (pos := pos) (r := r) n
    simp only [nAt]
    have h2 : vAt r (pos n) ≤ 1 := by
      cases pos n with
      | none => exact Nat.zero_le _
      | some s => simp only [vAt]; split <;> omega
    omega
/-- The most that each one saw at each place that it has come to. -/
structure Few (n : Nat) (pos : Nat → Option Nat) (a : Nat → Nat → Nat) : Prop where
  d : ∀ i s, i < n → pos i = some s → ∀ r, r < s → nAt pos (r + 1) n + 1 ≤ a i r
  c : ∀ i s, i < n → pos i = some s → ∀ r, r < s → a i (r + 1) + 1 ≤ a i r
  e : ∀ i s, i < n → pos i = some s → 1 ≤ a i s
def nextA (n : Nat) (pos pos' : Nat → Option Nat) (a : Nat → Nat → Nat) (i r : Nat) : Nat := match pos i with
  | some s => if r ≤ s then max (a i r) (nAt pos' r n) else nAt pos' r n
  | none => nAt pos' r n
theorem Few.le {n : Nat} {pos : Nat → Option Nat} {a : Nat → Nat → Nat} (h : Few n pos a) {i s : Nat} (hi : i < n) (hs : pos i = some s) : s + 1 ≤ a i 0 := by
  have key : ∀ k, k ≤ s → k + 1 ≤ a i (s - k) := by
    intro k
    induction k with
    | zero => intro _; exact h.e i s hi hs
    | succ k ih =>
      intro hk
      have h1 := ih (by omega)
      have h2 := h.c i s hi hs (s - (k + 1)) (by omega)
      rw [show s - (k + 1) + 1 = s - k by omega] at h2
      omega
  have := key s (Nat.le_refl s)
  rw [Nat.sub_self] at this
  exact this
/-- What may happen at once: nothing, one goes, one comes, one passes a slot that another one has. -/
inductive Moves (n : Nat) (pos pos' : Nat → Option Nat) : Prop
  | still (h : ∀ j, pos' j = pos j)
  | goes (p : Nat) (hp : p < n) (h : ∀ j, j ≠ p → pos' j = pos j) (h' : pos' p = none)
  | comes (p : Nat) (hp : p < n) (h : ∀ j, j ≠ p → pos' j = pos j) (h0 : pos p = none) (h' : pos' p = some 0)
  | pass (p q s : Nat) (hp : p < n) (hq : q < n) (hne : q ≠ p) (h : ∀ j, j ≠ p → pos' j = pos j) (h0 : pos p = some s) (h' : pos' p = some (s + 1)) (hs : pos q = some s)
section
variable {n : Nat} {pos pos' : Nat → Option Nat} {a : Nat → Nat → Nat}
theorem nextA_ge (i r : Nat) : nAt pos' r n ≤ nextA n pos pos' a i r := by
  unfold nextA
  split
  · split <;> omega
  · exact Nat.le_refl _
theorem nextA_old {i s r : Nat} (hs : pos i = some s) (hr : r ≤ s) : a i r ≤ nextA n pos pos' a i r := by
  unfold nextA
  rw [hs]
  simp only [if_pos hr]
  omega
/-- Of each one, the number ahead of r is reached by others too. -/
theorem Moves.ahead (m : Moves n pos pos') (h : Few n pos a) {i s' r : Nat} (hi : i < n) (hs : pos' i = some s') (hr : r < s') : nAt pos' (r + 1) n + 1 ≤ nextA n pos pos' a i r := by
  have old : ∀ s, pos i = some s → r < s → nAt pos' (r + 1) n ≤ nAt pos (r + 1) n → nAt pos' (r + 1) n + 1 ≤ nextA n pos pos' a i r := fun s e hlt hle => by
    have h1 := h.d i s hi e r hlt
    have h2 := nextA_old (n := n) (pos' := pos') (a := a) e (Nat.le_of_lt hlt)
    omega
  cases m with
  | still e =>
    rw [e i] at hs
    exact old s' hs hr (by rw [nAt_congr fun j _ => e j]; exact Nat.le_refl _)
  | goes p hp e e' =>
    have hne : i ≠ p := fun x => by rw [x, e'] at hs; cases hs
    rw [e i hne] at hs
    refine old s' hs hr ?_
    have := nAt_put (r := r + 1) e hp
    rw [e'] at this
    simp only [vAt] at this
    omega
  | comes p hp e e0 e' =>
    by_cases hne : i = p
    · subst hne
      rw [e'] at hs
      cases hs
      omega
    · rw [e i hne] at hs
      refine old s' hs hr ?_
      have := nAt_put (r := r + 1) e hp
      rw [e0, e'] at this
      simp only [vAt] at this
      rw [if_neg (by omega)] at this
      omega
  | pass p q s hp hq hne e e0 e' hqs =>
    have hput := nAt_put (r := r + 1) e hp
    rw [e0, e'] at hput
    simp only [vAt] at hput
    by_cases hrs : r = s
    · subst hrs
      have h1 := nAt_at (pos := pos') (s := r) (q := q) (by rw [e q hne]; exact hqs) hq
      have h2 := nextA_ge (n := n) (pos := pos) (pos' := pos') (a := a) i r
      omega
    · have hle : nAt pos' (r + 1) n ≤ nAt pos (r + 1) n := by
        by_cases h1 : r + 1 ≤ s
        · rw [if_pos h1, if_pos (by omega)] at hput; omega
        · rw [if_neg h1, if_neg (by omega)] at hput; omega
      by_cases hip : i = p
      · subst hip
        rw [e'] at hs
        cases hs
        exact old s e0 (by omega) hle
      · rw [e i hip] at hs
        exact old s' hs hr hle
theorem Few.next (h : Few n pos a) (m : Moves n pos pos') : Few n pos' (nextA n pos pos' a) := by
  refine ⟨fun i s hi hs r hr => m.ahead h hi hs hr, fun i s' hi hs r hr => ?_, fun i s hi hs => ?_⟩
  · have h1 := m.ahead h hi hs hr
    by_cases hc : ∃ s, pos i = some s ∧ r + 1 ≤ s
    · obtain ⟨s, e, hrs⟩ := hc
      have h2 := h.c i s hi e r (by omega)
      have h3 := nextA_old (n := n) (pos' := pos') (a := a) e (show r ≤ s by omega)
      have h4 : nextA n pos pos' a i (r + 1) = max (a i (r + 1)) (nAt pos' (r + 1) n) := by
        unfold nextA
        rw [e]
        simp only [if_pos hrs]
      rw [h4]
      omega
    · have h4 : nextA n pos pos' a i (r + 1) = nAt pos' (r + 1) n := by
        unfold nextA
        split
        · rename_i s e
          rw [if_neg fun x => hc ⟨s, e, x⟩]
        · rfl
      rw [h4]
      exact h1
  · exact Nat.le_trans (nAt_pos hs (Nat.le_refl s) hi) (nextA_ge i s)
end
end Go.Proofs.Ytnfpkadepomjjaa

/- ClaimFew: the arena that all that claim share; what each one holds; what each step makes of it. No program in sight. -/
namespace Go.Proofs.Ytnfpkadepomjjaa
open Go Go.RowKit
set_option maxRecDepth 100000

theorem findP_setPA {h i y k : Nat} (hk : k ≠ h) : ∀ {l : List (Nat × Nat × List Nat)}, findP k (setPA h i y l) = findP k l
  | [] => rfl
  | (n, h', ws) :: l => by
    simp only [setPA]
    by_cases e : h' = h
    · subst e
      rw [beq_dec, decide_eq_true rfl]
      simp only [cond_true, findP]
      rw [beq_dec, decide_eq_false (fun x => hk x.symm)]
      exact findP_setPA hk
    · rw [beq_dec, decide_eq_false e]
      simp only [cond_false, findP]
      rw [findP_setPA hk]
theorem findP_setPA_some {h i y k : Nat} {v : List Nat} {l : List (Nat × Nat × List Nat)} (e : findP k (setPA h i y l) = some v) : ∃ u, findP k l = some u := by
  cases hf : findP k l with
  | some u => exact ⟨u, rfl⟩
  | none => rw [findP_set hf] at e; cases e
theorem findP_freeB {h k : Nat} (hk : k ≠ h) : ∀ {l : List (Nat × Nat × List Nat)}, findP k (freeB h l) = findP k l
  | [] => rfl
  | (n, h', ws) :: l => by
    simp only [freeB]
    by_cases e : h' = h
    · subst e
      rw [beq_dec, decide_eq_true rfl]
      simp only [cond_true, findP]
      rw [beq_dec, decide_eq_false (fun x => hk x.symm)]
      rfl
    · rw [beq_dec, decide_eq_false e]
      simp only [cond_false, findP]
      rw [findP_freeB hk]
theorem findP_freeB_some {h k : Nat} : ∀ {l : List (Nat × Nat × List Nat)} {v : List Nat}, findP k (freeB h l) = some v → ∃ u, findP k l = some u
  | [], v, e => by cases e
  | (n, h', ws) :: l, v, e => by
    simp only [freeB] at e
    simp only [findP]
    by_cases e1 : h' = h
    · subst e1
      rw [beq_dec, decide_eq_true rfl] at e
      simp only [cond_true] at e
      cases Nat.beq h' k
      · exact ⟨v, e⟩
      · exact ⟨ws, rfl⟩
    · rw [beq_dec, decide_eq_false e1] at e
      simp only [cond_false, findP] at e
      cases hb : Nat.beq h' k
      · rw [hb] at e
        exact findP_freeB_some e
      · exact ⟨ws, rfl⟩
theorem word_of_find {x : PA} {k j : Nat} (hk : k ≠ 0) : x.word k j = (findP k x.bs).bind fun ws => ws[j]? := by
  unfold PA.word
  rw [beq_dec, decide_eq_false hk]
  simp only [cond_false]
  cases findP k x.bs <;> rfl
/-- Segments at whatever handles; own tells whose a slot is. -/
structure SegI (x : PA) (G : Nat) (H : Nat → Nat) (own : Nat → Nat) : Prop where
  fx9 : x.fx.length = 9
  cap : x.cap = 60000
  faults : x.faults = 0
  g8 : G ≤ 7
  fixed : ∀ g, g < 8 → x.word 0 (g + 1) = some (if g < G then H g else 0)
  hs : ∀ g, g < G → 0 < H g ∧ H g < 18446744073709551616
  inj : ∀ g k, g < G → k < G → H g = H k → g = k
  owns : ∀ u, u + 1 < 2 ^ G → x.word (H (segG u)) (5 * segO u) = some (own u)
  low : ∀ k ws, findP k x.bs = some ws → k / 65536 ≤ x.births
section
variable {x : PA} {G : Nat} {H own : Nat → Nat}
theorem SegI.new : SegI (PA.new 60000) 0 (fun _ => 0) fun _ => 0 := ⟨rfl, rfl, rfl, by decide, fun g hg => by
    have : ∀ i, i < 8 → (PA.new 60000).word 0 (i + 1) = some 0 := by decide
    rw [this g hg, if_neg (by omega)], fun g hg => by omega, fun g k hg => by omega, fun u hu => by simp at hu, fun k ws e => (by cases e)⟩
theorem SegI.tick (h : SegI x G H own) (f : Tly → Tly) : SegI (x.tick f) G H own := ⟨h.fx9, h.cap, h.faults, h.g8, h.fixed, h.hs, h.inj, h.owns, h.low⟩
theorem SegI.seg_lt (h : SegI x G H own) {u : Nat} (hu : u + 1 < 2 ^ G) : segG u < G ∧ u ≤ 254 := by
  have h8 : 2 ^ G ≤ 2 ^ 7 := Nat.pow_le_pow_right (by omega) h.g8
  have hu2 : u ≤ 254 := by omega
  exact ⟨segG_lt2 hu hu2, hu2⟩
theorem SegI.find (h : SegI x G H own) {g : Nat} (hg : g < G) : ∃ ws, findP (H g) x.bs = some ws := by
  have hp : 1 ≤ 2 ^ g := Nat.one_le_two_pow
  have hG : 2 ^ (g + 1) ≤ 2 ^ G := Nat.pow_le_pow_right (by omega) hg
  rw [Nat.pow_succ] at hG
  have hu : (2 ^ g - 1) + 1 < 2 ^ G := by omega
  have hw := h.owns _ hu
  rw [segG_of2 (G := g) (by omega), word_of_find (by have := (h.hs g hg).1; omega)] at hw
  cases hf : findP (H g) x.bs with
  | none => rw [hf] at hw; cases hw
  | some ws => exact ⟨ws, rfl⟩
theorem SegI.has (h : SegI x G H own) {u : Nat} (hu : u + 1 < 2 ^ G) : x.Has (H (segG u) : Nat) (5 * (segO u : Nat) : Int) ∧ x.rd (H (segG u) : Nat) (5 * (segO u : Nat) : Int) = own u := by
  obtain ⟨hg, hu2⟩ := h.seg_lt hu
  have hh := h.hs _ hg
  have e1 : (5 * ((segO u : Nat) : Int)).toNat = 5 * segO u := by omega
  constructor
  · refine ⟨by omega, by omega, ?_, h.fx9⟩
    rw [e1, Int.toNat_natCast, h.owns u hu]; rfl
  · unfold PA.rd
    rw [e1, Int.toNat_natCast, h.owns u hu]; rfl
theorem SegI.has0 (h : SegI x G H own) {g : Nat} (hg : g < 8) : x.Has 0 ((g : Int) + 1) ∧ x.rd 0 ((g : Int) + 1) = if g < G then H g else 0 := by
  have e1 : ((g : Int) + 1).toNat = g + 1 := by omega
  have hw := h.fixed g hg
  constructor
  · exact ⟨by decide, by omega, by rw [e1]; show (x.word 0 _).isSome = true; rw [hw]; rfl, h.fx9⟩
  · unfold PA.rd
    rw [e1, show (0 : Int).toNat = 0 from rfl, hw]; rfl
/-- A slot's word is written. -/
theorem SegI.put (h : SegI x G H own) {s : Nat} (hs : s + 1 < 2 ^ G) (y : Nat) (f : Tly → Tly) : SegI ((x.set (H (segG s)) (5 * segO s) y).tick f) G H (fun u => if u = s then y else own u) ∧
    (∀ k, (∀ g, g < G → H g ≠ k) → findP k ((x.set (H (segG s)) (5 * segO s) y).tick f).bs = findP k x.bs) ∧ (x.set (H (segG s)) (5 * segO s) y).used = x.used ∧ (x.set (H (segG s)) (5 * segO s) y).births = x.births := by
  obtain ⟨hg, hs2⟩ := h.seg_lt hs
  have hh := h.hs _ hg
  obtain ⟨r1, r2, r3, r4, r5, r6, r7⟩ := set_rest x (H (segG s)) (5 * segO s) y
  have hsome : (x.word (H (segG s)) (5 * segO s)).isSome = true := by rw [h.owns s hs]; rfl
  have ebs : (x.set (H (segG s)) (5 * segO s) y).bs = setPA (H (segG s)) (5 * segO s) y x.bs := by
    unfold PA.set
    rw [beq_dec, decide_eq_false (by omega)]
    rfl
  refine ⟨⟨r7.trans h.fx9, r1.trans h.cap, r6.trans h.faults, h.g8, fun g hg => ?_, h.hs, h.inj, fun u hu => ?_, fun k ws e => ?_⟩, fun k hk => ?_, r2, r3⟩
  · rw [PA.word_tick, PA.word_set y hsome h.fx9, if_neg (by omega)]
    exact h.fixed g hg
  · rw [PA.word_tick, PA.word_set y hsome h.fx9]
    obtain ⟨hgu, hu2⟩ := h.seg_lt hu
    by_cases e : u = s
    · subst e
      rw [if_pos ⟨rfl, rfl⟩, if_pos rfl]
    · rw [if_neg e, if_neg]
      · exact h.owns u hu
      · rintro ⟨e1, e2⟩
        exact e (seg_inj (h.inj _ _ hgu hg e1) (by omega) hu2 hs2)
  · have e : findP k (setPA (H (segG s)) (5 * segO s) y x.bs) = some ws := by rw [← ebs]; exact e
    obtain ⟨u, hu⟩ := findP_setPA_some e
    show k / 65536 ≤ (x.set (H (segG s)) (5 * segO s) y).births
    rw [r3]
    exact h.low k u hu
  · show findP k (x.set (H (segG s)) (5 * segO s) y).bs = _
    rw [ebs]
    exact findP_setPA fun e => hk _ hg e.symm
/-- A block more. -/
theorem SegI.lay (h : SegI x G H own) (hinv : PA.Inv x) {ws : List Nat} (hu : x.used + ws.length ≤ x.cap) (h0 : 0 < ws.length) (hb : x.births < 100000) :
    SegI (x.layG ws) G H own ∧ findP x.hdlG x.bs = none ∧ (∀ k, findP k (x.layG ws).bs = if k = x.hdlG then some ws else findP k x.bs) ∧ x.hdlG ≠ 0 ∧ x.hdlG < 18446744073709551616 ∧ (∀ g, g < G → H g ≠ x.hdlG) := by
  obtain ⟨z, hi⟩ := hinv
  obtain ⟨n1, n2, _, _⟩ := hi.next (show x.used < x.cap by omega)
  rw [PA.next_eq] at n1 n2
  have hd : x.hdlG / 65536 = x.births + 1 := by unfold PA.hdlG; omega
  have hnone : findP x.hdlG x.bs = none := by
    cases hf : findP x.hdlG x.bs with
    | none => rfl
    | some v => have := h.low _ v hf; omega
  have hfind : ∀ k, findP k (x.layG ws).bs = if k = x.hdlG then some ws else findP k x.bs := fun k => by
    show findP k (appB x.nextN x.hdlG ws x.bs) = _
    rw [findP_app]
    by_cases e : k = x.hdlG
    · subst e
      rw [hnone, if_pos rfl]
    · rw [if_neg e]
      cases findP k x.bs with
      | some v => rfl
      | none =>
        simp only
        rw [if_neg (fun e' => e e'.symm)]
  have hne : ∀ g, g < G → H g ≠ x.hdlG := fun g hg e => by
    obtain ⟨v, hv⟩ := h.find hg
    have := h.low _ v hv
    rw [e] at this
    omega
  refine ⟨⟨h.fx9, h.cap, h.faults, h.g8, fun g hg => ?_, h.hs, h.inj, fun u hu => ?_, fun k v e => ?_⟩, hnone, hfind, by unfold PA.hdlG; omega, by unfold PA.hdlG; omega, hne⟩
  · have := h.fixed g hg
    unfold PA.word at this ⊢
    simp only [Nat.beq, cond_true] at this ⊢
    exact this
  · obtain ⟨hgu, hu2⟩ := h.seg_lt hu
    have hk := (h.hs _ hgu).1
    have := h.owns u hu
    rw [word_of_find (by omega)] at this ⊢
    rw [hfind, if_neg (hne _ hgu)]
    exact this
  · rw [hfind] at e
    show k / 65536 ≤ x.births + 1
    by_cases e1 : k = x.hdlG
    · omega
    · rw [if_neg e1] at e
      have := h.low k v e
      omega
/-- A block less. -/
theorem SegI.free (h : SegI x G H own) {p : Nat} {ws : List Nat} (hp : findP p x.bs = some ws) (hne : ∀ g, g < G → H g ≠ p) :
    SegI (x.frX (p : Nat)) G H own ∧ (∀ k, k ≠ p → findP k (x.frX (p : Nat)).bs = findP k x.bs) ∧ (x.frX (p : Nat)).used = x.used - ws.length ∧ (x.frX (p : Nat)).births = x.births := by
  have e : x.frX (p : Nat) = x.free p ws.length := by unfold PA.frX; rw [Int.toNat_natCast, hp]
  rw [e]
  refine ⟨⟨h.fx9, h.cap, h.faults, h.g8, fun g hg => ?_, h.hs, h.inj, fun u hu => ?_, fun k v e => ?_⟩, fun k hk => findP_freeB hk, rfl, rfl⟩
  · have := h.fixed g hg
    unfold PA.word at this ⊢
    simp only [Nat.beq, cond_true] at this ⊢
    exact this
  · obtain ⟨hgu, hu2⟩ := h.seg_lt hu
    have hk := (h.hs _ hgu).1
    have := h.owns u hu
    rw [word_of_find (by omega)] at this ⊢
    rw [show findP (H (segG u)) (x.free p ws.length).bs = findP (H (segG u)) x.bs from findP_freeB (hne _ hgu)]
    exact this
  · obtain ⟨u, hu⟩ := findP_freeB_some (show findP k (freeB p x.bs) = some v from e)
    exact h.low k u hu
/-- A segment is installed. -/
theorem SegI.install (h : SegI x G H own) (hG : G < 7) {p : Nat} (hp0 : p ≠ 0) (hp1 : p < 18446744073709551616) (hp : findP p x.bs = some (zerosG G)) (hne : ∀ g, g < G → H g ≠ p) (f : Tly → Tly) :
    SegI ((x.set 0 (G + 1) p).tick f) (G + 1) (fun g => if g = G then p else H g) (fun u => if u + 1 < 2 ^ G then own u else 0) ∧ ((x.set 0 (G + 1) p).tick f).bs = x.bs ∧ (x.set 0 (G + 1) p).used = x.used ∧ (x.set 0 (G + 1) p).births = x.births := by
  obtain ⟨r1, r2, r3, r4, r5, r6, r7⟩ := set_rest x 0 (G + 1) p
  have hsome : (x.word 0 (G + 1)).isSome = true := by rw [h.fixed G (by omega)]; rfl
  have ebs : (x.set 0 (G + 1) p).bs = x.bs := rfl
  have hH : ∀ g, g < G → (if g = G then p else H g) = H g := fun g hg => if_neg (by omega)
  refine ⟨⟨r7.trans h.fx9, r1.trans h.cap, r6.trans h.faults, hG, fun g hg => ?_, fun g hg => ?_, fun g k hg hk e => ?_, fun u hu => ?_, fun k ws e => ?_⟩, rfl, r2, r3⟩
  · rw [PA.word_tick, PA.word_set p hsome h.fx9]
    by_cases e : g = G
    · subst e
      rw [if_pos ⟨rfl, rfl⟩, if_pos (Nat.lt_succ_self g), if_pos rfl]
    · rw [if_neg (by omega), h.fixed g hg, if_neg e]
      by_cases e2 : g < G
      · rw [if_pos e2, if_pos (by omega)]
      · rw [if_neg e2, if_neg (by omega)]
  · by_cases e : g = G
    · rw [if_pos e]; exact ⟨by omega, hp1⟩
    · rw [if_neg e]; exact h.hs g (by omega)
  · by_cases e1 : g = G
    · by_cases e2 : k = G
      · omega
      · rw [if_pos e1, if_neg e2] at e
        exact absurd e.symm (hne k (by omega))
    · by_cases e2 : k = G
      · rw [if_neg e1, if_pos e2] at e
        exact absurd e (hne g (by omega))
      · rw [if_neg e1, if_neg e2] at e
        exact h.inj g k (by omega) (by omega) e
  · by_cases e : u + 1 < 2 ^ G
    · obtain ⟨hgu, hu2⟩ := h.seg_lt e
      have hk := (h.hs _ hgu).1
      rw [hH _ hgu, if_pos e, PA.word_tick, PA.word_set p hsome h.fx9, if_neg (by omega)]
      exact h.owns u e
    · rw [if_neg e]
      have hpw : 2 ^ (G + 1) = 2 * 2 ^ G := by rw [Nat.pow_succ]; omega
      have hg : segG u = G := segG_mid (by omega) hu
      have ho : segO u < 2 ^ G := by unfold segO; rw [hg]; omega
      rw [hg, if_pos rfl, PA.word_tick, PA.word_set p hsome h.fx9, if_neg (by omega), word_of_find hp0, hp, zerosG_eq]
      show (List.replicate (7 * 2 ^ G) 0)[5 * segO u]? = some 0
      rw [List.getElem?_replicate, if_pos (by omega)]
  · have := h.low k ws e
    show k / 65536 ≤ (x.set 0 (G + 1) p).births
    rw [r3]
    exact this
end
end Go.Proofs.Ytnfpkadepomjjaa

/- ClaimFew: what holds of all that claim, step by step. No program in sight. -/
namespace Go.Proofs.Ytnfpkadepomjjaa
open Go Go.RowKit
set_option maxRecDepth 100000

def posF (c : Nat → Option Clm) (i : Nat) : Option Nat := (c i).map (·.slot)
def putF (c : Nat → Option Clm) (i : Nat) (o : Option Clm) (j : Nat) : Option Clm := if j = i then o else c j
def szF : Option Clm → Nat
  | some y => if y.priv = 0 then 0 else 7 * 2 ^ y.g
  | none => 0
def sumZ (c : Nat → Option Clm) : Nat → Nat
  | 0 => 0
  | n + 1 => sumZ c n + szF (c n)
theorem putF_self (c : Nat → Option Clm) (i : Nat) (o : Option Clm) : putF c i o i = o := if_pos rfl
theorem putF_ne {c : Nat → Option Clm} {i j : Nat} (o : Option Clm) (h : j ≠ i) : putF c i o j = c j := if_neg h
theorem sumZ_put {c : Nat → Option Clm} {k : Nat} {o : Option Clm} : ∀ {n : Nat}, k < n → sumZ (putF c k o) n + szF (c k) = sumZ c n + szF o
  | n + 1, hk => by
    have cong : ∀ m, m ≤ k → sumZ (putF c k o) m = sumZ c m := fun m => by
      induction m with
      | zero => intro _; rfl
      | succ m ih =>
        intro hm
        simp only [sumZ]
        rw [ih (by omega), putF_ne o (by omega)]
    simp only [sumZ]
    by_cases e : k = n
    · subst e
      rw [cong k (Nat.le_refl k), putF_self]
      omega
    · have := sumZ_put (c := c) (o := o) (n := n) (show k < n by omega)
      rw [putF_ne o (fun x => e x.symm)]
      omega
theorem sumZ_ge {c : Nat → Option Clm} {k : Nat} : ∀ {n : Nat}, k < n → szF (c k) ≤ sumZ c n
  | n + 1, hk => by
    simp only [sumZ]
    by_cases e : k = n
    · subst e; omega
    · have := sumZ_ge (c := c) (n := n) (show k < n by omega)
      omega
/-- What holds of the i-th one. -/
structure ClF (x : PA) (G : Nat) (H own : Nat → Nat) (i : Nat) (y : Clm) : Prop where
  tok : y.tok = i + 1
  ph : y.ph ≤ 5
  pg : y.ph ≤ 3 → y.g = segG y.slot ∧ segO y.slot = 0 ∧ segG y.slot ≤ G
  p0 : y.ph = 2 ∨ y.ph = 3 → y.priv ≠ 0 ∧ y.priv < 18446744073709551616 ∧ findP y.priv x.bs = some (zerosG y.g) ∧ ∀ g, g < G → H g ≠ y.priv
  p1 : y.ph ≠ 2 → y.ph ≠ 3 → y.priv = 0
  p3 : y.ph = 3 → segG y.slot < G
  p4 : 4 ≤ y.ph → y.slot + 1 < 2 ^ G ∧ y.seg = H (segG y.slot)
  p5 : y.ph = 5 → own y.slot = y.tok
  got : y.got = Nat.beq y.ph 5
structure FewB (n : Nat) (c : Nat → Option Clm) (x : PA) (G : Nat) (H own : Nat → Nat) : Prop where
  seg : SegI x G H own
  each : ∀ i y, i < n → c i = some y → ClF x G H own i y
  apart : ∀ i j y z, i < n → j < n → c i = some y → c j = some z → y.priv ≠ 0 → y.priv = z.priv → i = j
  owner : ∀ u, u + 1 < 2 ^ G → own u ≠ 0 → ∃ i y, i < n ∧ c i = some y ∧ y.ph = 5 ∧ y.slot = u
  used : x.used ≤ 7 * (2 ^ G - 1) + sumZ c n
  g4 : G ≤ 4
theorem ClF.keep {x x' : PA} {G G' : Nat} {H H' own own' : Nat → Nat} {j : Nat} {z : Clm} (h : ClF x G H own j z) (hs : SegI x G H own) (hG : G ≤ G') (hH : ∀ g, g < G → H' g = H g) (ho : z.ph = 5 → own' z.slot = own z.slot)
    (hf : z.priv ≠ 0 → findP z.priv x'.bs = findP z.priv x.bs) (hn : z.priv ≠ 0 → ∀ g, G ≤ g → g < G' → H' g ≠ z.priv) : ClF x' G' H' own' j z := by
  refine ⟨h.tok, h.ph, fun e => ?_, fun e => ?_, h.p1, fun e => ?_, fun e => ?_, fun e => ?_, h.got⟩
  · obtain ⟨a, b, c⟩ := h.pg e
    exact ⟨a, b, by omega⟩
  · obtain ⟨a, b, c, d⟩ := h.p0 e
    refine ⟨a, b, by rw [hf a]; exact c, fun g hg => ?_⟩
    by_cases e : g < G
    · rw [hH g e]; exact d g e
    · exact hn a g (by omega) hg
  · have := h.p3 e; omega
  · obtain ⟨a, b⟩ := h.p4 e
    have h1 : 2 ^ G ≤ 2 ^ G' := Nat.pow_le_pow_right (by omega) hG
    exact ⟨by omega, by rw [hH _ (hs.seg_lt a).1]; exact b⟩
  · rw [ho e]; exact h.p5 e
section
variable {n : Nat} {c : Nat → Option Clm} {x x' : PA} {G G' : Nat} {H H' own own' : Nat → Nat}
theorem FewB.upd (h : FewB n c x G H own) {i : Nat} (hi : i < n) {o : Option Clm} (hs : SegI x' G' H' own') (ho : ∀ y, o = some y → ClF x' G' H' own' i y)
    (hoth : ∀ j z, j < n → j ≠ i → c j = some z → ClF x G H own j z → ClF x' G' H' own' j z)
    (hap : ∀ y, o = some y → y.priv ≠ 0 → ∀ j z, j < n → j ≠ i → c j = some z → z.priv ≠ y.priv)
    (how : ∀ u, u + 1 < 2 ^ G' → own' u ≠ 0 → (∃ y, o = some y ∧ y.ph = 5 ∧ y.slot = u) ∨ (u + 1 < 2 ^ G ∧ own u ≠ 0 ∧ ∀ y, c i = some y → y.ph = 5 → y.slot ≠ u))
    (hu : ∀ S, x.used ≤ S + szF (c i) + 7 * (2 ^ G - 1) → x'.used ≤ S + szF o + 7 * (2 ^ G' - 1)) (g4 : G' ≤ 4) : FewB n (putF c i o) x' G' H' own' := by
  refine ⟨hs, fun j y hj e => ?_, fun j k y z hj hk ey ez hp hpe => ?_, fun u hu ho' => ?_, ?_, g4⟩
  · by_cases e1 : j = i
    · subst e1
      rw [putF_self] at e
      exact ho y e
    · rw [putF_ne o e1] at e
      exact hoth j y hj e1 e (h.each j y hj e)
  · by_cases e1 : j = i
    · by_cases e2 : k = i
      · omega
      · subst e1
        rw [putF_self] at ey
        rw [putF_ne o e2] at ez
        exact absurd hpe.symm (hap y ey hp k z hk e2 ez)
    · by_cases e2 : k = i
      · subst e2
        rw [putF_self] at ez
        rw [putF_ne o e1] at ey
        exact absurd hpe (hap z ez (by rw [← hpe]; exact hp) j y hj e1 ey)
      · rw [putF_ne o e1] at ey
        rw [putF_ne o e2] at ez
        exact h.apart j k y z hj hk ey ez hp hpe
  · rcases how u hu ho' with ⟨y, e1, e2, e3⟩ | ⟨h1, h2, h3⟩
    · exact ⟨i, y, hi, by rw [putF_self]; exact e1, e2, e3⟩
    · obtain ⟨j, y, hj, e1, e2, e3⟩ := h.owner u h1 h2
      refine ⟨j, y, hj, ?_, e2, e3⟩
      rw [putF_ne o fun e => h3 y (by rw [← e]; exact e1) e2 e3]
      exact e1
  · have h1 := sumZ_put (c := c) (o := o) hi
    have h2 := h.used
    have h3 := sumZ_ge (c := c) hi
    have h4 := hu (sumZ c n - szF (c i)) (by omega)
    omega
theorem pos_still {i : Nat} {y y' : Clm} (hc : c i = some y) (e : y'.slot = y.slot) (j : Nat) : posF (putF c i (some y')) j = posF c j := by
  unfold posF putF
  by_cases e1 : j = i
  · subst e1
    rw [if_pos rfl, hc]
    simp only [Option.map_some, e]
  · rw [if_neg e1]
theorem pos_other {i : Nat} {o : Option Clm} (j : Nat) (h : j ≠ i) : posF (putF c i o) j = posF c j := by
  unfold posF
  rw [putF_ne o h]
theorem segG_12 {s : Nat} (h : s ≤ 12) : segG s ≤ 3 := by
  have h1 := (seg_facts (s := s) (by omega)).2.1
  rcases Nat.lt_or_ge (segG s) 4 with h2 | h2
  · omega
  · have : 2 ^ 4 ≤ 2 ^ segG s := Nat.pow_le_pow_right (by omega) h2
    omega
/-- How often it may have tried. -/
def mayTry (y : Clm) : Nat := y.slot + segG y.slot + (if 4 ≤ y.ph then 1 else 0) + (if y.got = true then 1 else 0)
def TryOk (y y' : Clm) (x x' : PA) : Prop := x.t.swaps ≤ x'.t.swaps ∧ x'.t.swaps ≤ x.t.swaps + 1 ∧ mayTry y ≤ mayTry y' ∧ (y'.got = true ∨ (x.t.swaps < x'.t.swaps ∧ y'.priv = 0) → mayTry y + 1 ≤ mayTry y')
structure Stepped (n : Nat) (c : Nat → Option Clm) (x : PA) (i : Nat) (y : Clm) : Prop where
  ok : clmOkG y x
  next : ∃ (G' : Nat) (H' own' : Nat → Nat), FewB n (putF c i (some (clmStepG y x))) (clmAG y x) G' H' own'
  moves : Moves n (posF c) (posF (putF c i (some (clmStepG y x))))
  births : (clmAG y x).births ≤ x.births + 1
  tries : y.ph ≠ 5 → TryOk y (clmStepG y x) x (clmAG y x)
theorem FewB.sum_le (h : FewB n c x G H own) : ∀ m, m ≤ n → (∀ i y, i < n → c i = some y → y.slot ≤ 12) → sumZ c m ≤ 112 * m := fun m => by
  induction m with
  | zero => intro _ _; exact Nat.le_refl _
  | succ m ih =>
    intro hm hsl
    have h1 := ih (by omega) hsl
    simp only [sumZ]
    have h2 : szF (c m) ≤ 112 := by
      cases hc : c m with
      | none => exact Nat.zero_le _
      | some y =>
        simp only [szF]
        split
        · omega
        · rename_i hp
          have hf := h.each m y (by omega) hc
          have hph : y.ph = 2 ∨ y.ph = 3 := by
            by_cases e1 : y.ph = 2
            · exact .inl e1
            · by_cases e2 : y.ph = 3
              · exact .inr e2
              · exact absurd (hf.p1 e1 e2) hp
          obtain ⟨e1, _, e3⟩ := hf.pg (by omega)
          have := h.g4
          have : 2 ^ y.g ≤ 2 ^ 4 := Nat.pow_le_pow_right (by omega) (by omega)
          omega
    omega
theorem PA.swapQ_yes {x : PA} {h i o y : Int} (e : (x.rd h i : Int) = o) : x.swapQ h i o y = (x.set h.toNat i.toNat y.toNat).tick fun t => { t with swaps := t.swaps + 1 } := by
  unfold PA.swapQ; rw [if_pos e]
theorem PA.swapQ_no {x : PA} {h i o y : Int} (e : ¬ (x.rd h i : Int) = o) : x.swapQ h i o y = x.tick fun t => { t with swaps := t.swaps + 1 } := by
  unfold PA.swapQ; rw [if_neg e]
theorem set_t (x : PA) (h i y : Nat) : (x.set h i y).t = x.t := by
  unfold PA.set
  cases Nat.beq h 0 <;> rfl
theorem FewB.step0 (h : FewB n c x G H own) {i : Nat} (hi : i < n) {tok seg slot g priv : Nat} {got : Bool} {e : Nat} (hc : c i = some ⟨0, tok, seg, slot, g, priv, got, e⟩) (hsl : slot ≤ 12) : Stepped n c x i ⟨0, tok, seg, slot, g, priv, got, e⟩ := by
  have hf := h.each i _ hi hc
  obtain ⟨e1, e2, e3⟩ := hf.pg (by dsimp only; omega)
  have hgot : got = false := hf.got
  have hpr : priv = 0 := hf.p1 (by dsimp only; omega) (by dsimp only; omega)
  have htok := hf.tok
  dsimp only at e1 e2 e3 htok
  have hg := h.g4
  obtain ⟨h1, h2⟩ := h.seg.has0 (g := g) (by omega)
  have es : clmStepG ⟨0, tok, seg, slot, g, priv, got, e⟩ x = ⟨if g < G then 4 else 1, tok, if g < G then H g else 0, slot, g, priv, got, e⟩ := by
    simp only [clmStepG, h2]
    by_cases hlt : g < G
    · have := (h.seg.hs g hlt).1
      simp only [if_pos hlt]
      rw [if_neg (by omega)]
    · simp only [if_neg hlt, if_true]
  refine ⟨⟨by dsimp only; omega, h1⟩, ⟨G, H, own, ?_⟩, ?_, Nat.le_succ _, fun _ => ?_⟩
  · rw [es]
    refine h.upd hi (x' := x.read) (h.seg.tick _) (fun y hy => ?_) (fun j z hj hne hz hk => ?_) (fun y hy hp => ?_) (fun u hu ho => .inr ⟨hu, ho, fun y hy h5 => ?_⟩) ?_ h.g4
    · cases hy
      have key : ∀ p q, (if g < G then p else q : Nat) = p ∨ (if g < G then p else q : Nat) = q := fun p q => by split; exact .inl rfl; exact .inr rfl
      refine ⟨htok, by dsimp only; split <;> omega, fun _ => ⟨e1, e2, e3⟩, fun hp => ?_, fun _ _ => hpr, fun hp => ?_, fun hp => ?_, fun hp => ?_, ?_⟩
      · dsimp only at hp
        split at hp <;> omega
      · dsimp only at hp
        split at hp <;> omega
      · dsimp only at hp ⊢
        by_cases hlt : g < G
        · rw [if_pos hlt, e1]
          have : 2 ^ (g + 1) ≤ 2 ^ G := Nat.pow_le_pow_right (by omega) hlt
          rw [Nat.pow_succ] at this
          have h3 : slot + 1 = 2 ^ segG slot := by
            have := (seg_facts (s := slot) (by omega)).2.1
            unfold segO at e2
            omega
          have h4 : 1 ≤ 2 ^ segG slot := Nat.one_le_two_pow
          rw [← e1] at h3 h4
          exact ⟨by omega, rfl⟩
        · rw [if_neg hlt] at hp; omega
      · dsimp only at hp
        split at hp <;> omega
      · rw [hgot]
        dsimp only
        split <;> rfl
    · exact hk.keep h.seg (Nat.le_refl _) (fun _ _ => rfl) (fun _ => rfl) (fun _ => rfl) (fun _ g h1 h2 => by omega)
    · cases hy
      exact absurd hpr hp
    · rw [hc] at hy
      cases hy
      cases h5
    · intro S hS
      rw [hc] at hS
      exact hS
  · rw [es]
    exact .still fun j => pos_still hc (by rfl) j
  · rw [es]
    refine ⟨Nat.le_refl _, Nat.le_succ _, ?_, fun hh => ?_⟩
    · simp only [mayTry, Nat.reduceLeDiff, if_true, if_false]
      try omega
    · rcases hh with hh | ⟨hh, _⟩
      · rw [hgot] at hh; cases hh
      · exact absurd hh (Nat.lt_irrefl _)
theorem FewB.step1 (h : FewB n c x G H own) (hinv : PA.Inv x) (hb : x.births < 100000) (hn : n ≤ 13) (hall : ∀ i y, i < n → c i = some y → y.slot ≤ 12) {i : Nat} (hi : i < n) {tok seg slot g priv : Nat} {got : Bool} {e : Nat} (hc : c i = some ⟨1, tok, seg, slot, g, priv, got, e⟩) : Stepped n c x i ⟨1, tok, seg, slot, g, priv, got, e⟩ := by
  have hf := h.each i _ hi hc
  obtain ⟨e1, e2, e3⟩ := hf.pg (by dsimp only; omega)
  have hgot : got = false := hf.got
  have hpr : priv = 0 := hf.p1 (by dsimp only; omega) (by dsimp only; omega)
  have htok := hf.tok
  dsimp only at e1 e2 e3 htok
  have hg := h.g4
  have h16 : 2 ^ g ≤ 2 ^ 4 := Nat.pow_le_pow_right (by omega) (by omega)
  have hG16 : 2 ^ G ≤ 2 ^ 4 := Nat.pow_le_pow_right (by omega) hg
  have hp1 : 1 ≤ 2 ^ g := Nat.one_le_two_pow
  have hsum := h.sum_le n (Nat.le_refl n) hall
  have hus := h.used
  have hlen : (zerosG g).length = 7 * 2 ^ g := by rw [zerosG_eq, List.length_replicate]
  have hcap := h.seg.cap
  have hroom : x.used + 7 * 2 ^ g ≤ x.cap := by omega
  obtain ⟨l1, l2, l3, l4, l5, l6⟩ := h.seg.lay hinv (ws := zerosG g) (by rw [hlen]; exact hroom) (by rw [hlen]; omega) hb
  refine ⟨⟨by dsimp only; omega, hroom, by omega⟩, ⟨G, H, own, ?_⟩, .still fun j => pos_still hc (by rfl) j, Nat.le_refl _, fun _ => ⟨Nat.le_refl _, Nat.le_succ _, ?_, fun hh => ?_⟩⟩
  · refine h.upd hi (x' := x.layG (zerosG g)) (o := some ⟨2, tok, seg, slot, g, x.hdlG, got, e⟩) l1 (fun y hy => ?_) (fun j z hj hne hz hk => ?_) (fun y hy hp j z hj hne hz => ?_) (fun u hu ho => .inr ⟨hu, ho, fun y hy h5 => ?_⟩) ?_ h.g4
    · cases hy
      exact ⟨htok, by dsimp only; omega, fun _ => ⟨e1, e2, e3⟩, fun _ => ⟨l4, l5, by rw [l3, if_pos rfl], l6⟩, fun h1 => absurd rfl h1, fun h1 => (by cases h1), fun h1 => by dsimp only at h1; omega, fun h1 => (by cases h1), hgot⟩
    · refine hk.keep h.seg (Nat.le_refl _) (fun _ _ => rfl) (fun _ => rfl) (fun hp => ?_) (fun _ g h1 h2 => by omega)
      have hph : z.ph = 2 ∨ z.ph = 3 := by
        by_cases e1 : z.ph = 2
        · exact .inl e1
        · by_cases e2 : z.ph = 3
          · exact .inr e2
          · exact absurd (hk.p1 e1 e2) hp
      have h3 := (hk.p0 hph).2.2.1
      rw [l3, if_neg fun e => by rw [e, l2] at h3; cases h3]
    · cases hy
      intro hze
      have hk := h.each j z hj hz
      have hp : z.priv ≠ 0 := by rw [hze]; exact l4
      have hph : z.ph = 2 ∨ z.ph = 3 := by
        by_cases e1 : z.ph = 2
        · exact .inl e1
        · by_cases e2 : z.ph = 3
          · exact .inr e2
          · exact absurd (hk.p1 e1 e2) hp
      have h3 := (hk.p0 hph).2.2.1
      rw [hze] at h3
      dsimp only at h3
      rw [l2] at h3
      cases h3
    · rw [hc] at hy
      cases hy
      cases h5
    · intro S hS
      rw [hc] at hS
      replace hS : x.used ≤ S + (if priv = 0 then 0 else 7 * 2 ^ g) + 7 * (2 ^ G - 1) := hS
      show x.used + (zerosG g).length ≤ S + (if x.hdlG = 0 then 0 else 7 * 2 ^ g) + _
      rw [hpr, if_pos rfl] at hS
      rw [if_neg l4, hlen]
      omega
  · simp only [mayTry, clmStepG, Nat.reduceLeDiff, if_true, if_false]
    try omega
  · rcases hh with hh | ⟨hh, _⟩
    · exact absurd (hgot.symm.trans hh) (by decide)
    · exact absurd hh (Nat.lt_irrefl _)
theorem FewB.step2 (h : FewB n c x G H own) {i : Nat} (hi : i < n) {tok seg slot g priv : Nat} {got : Bool} {e : Nat} (hc : c i = some ⟨2, tok, seg, slot, g, priv, got, e⟩) (hsl : slot ≤ 12) : Stepped n c x i ⟨2, tok, seg, slot, g, priv, got, e⟩ := by
  have hf := h.each i _ hi hc
  obtain ⟨e1, e2, e3⟩ := hf.pg (by dsimp only; omega)
  have hgot : got = false := hf.got
  obtain ⟨p1, p2, p3, p4⟩ := hf.p0 (.inl rfl)
  have htok := hf.tok
  dsimp only at e1 e2 e3 htok p1 p2 p3 p4
  have hg := h.g4
  obtain ⟨h1, h2⟩ := h.seg.has0 (g := g) (by omega)
  have h3 : slot + 1 = 2 ^ segG slot := by
    have := (seg_facts (s := slot) (by omega)).2.1
    unfold segO at e2
    omega
  have hoth : ∀ j z, j < n → j ≠ i → c j = some z → z.priv ≠ priv := fun j z hj hne hz e' => hne (h.apart i j _ z hi hj hc hz p1 e'.symm).symm
  by_cases hlt : g < G
  · have hz := (h.seg.hs g hlt).1
    rw [if_pos hlt] at h2
    have es : clmStepG ⟨2, tok, seg, slot, g, priv, got, e⟩ x = ⟨3, tok, seg, slot, g, priv, got, e⟩ := by
      simp only [clmStepG, h2]
      rw [if_neg (by omega)]
    have ea : clmAG ⟨2, tok, seg, slot, g, priv, got, e⟩ x = x.tick fun t => { t with swaps := t.swaps + 1 } := PA.swapQ_no (by rw [h2]; omega)
    refine ⟨⟨by dsimp only; omega, h1, p2⟩, ⟨G, H, own, ?_⟩, ?_, ?_, fun _ => ?_⟩
    · rw [es, ea]
      refine h.upd hi (h.seg.tick _) (fun y hy => ?_) (fun j z hj hne hz hk => ?_) (fun y hy hp j z hj hne hz => ?_) (fun u hu ho => .inr ⟨hu, ho, fun y hy h5 => ?_⟩) ?_ h.g4
      · cases hy
        exact ⟨htok, by dsimp only; omega, fun _ => ⟨e1, e2, e3⟩, fun _ => ⟨p1, p2, p3, p4⟩, fun _ h1 => absurd rfl h1, fun _ => by dsimp only; omega, fun h1 => by dsimp only at h1; omega, fun h1 => (by cases h1), hgot⟩
      · exact hk.keep h.seg (Nat.le_refl _) (fun _ _ => rfl) (fun _ => rfl) (fun _ => rfl) (fun _ g h1 h2 => by omega)
      · cases hy
        exact hoth j z hj hne hz
      · rw [hc] at hy
        cases hy
        cases h5
      · intro S hS
        rw [hc] at hS
        exact hS
    · rw [es]
      exact .still fun j => pos_still hc (by rfl) j
    · rw [ea]; exact Nat.le_succ _
    · rw [es, ea]
      refine ⟨Nat.le_succ _, Nat.le_refl _, ?_, fun hh => ?_⟩
      · simp only [mayTry, Nat.reduceLeDiff, if_true, if_false]; try omega
      · rcases hh with hh | ⟨_, hh⟩
        · exact absurd (hgot.symm.trans hh) (by decide)
        · exact absurd hh p1
  · have eG : g = G := by omega
    rw [if_neg hlt] at h2
    have es : clmStepG ⟨2, tok, seg, slot, g, priv, got, e⟩ x = ⟨4, tok, priv, slot, g, 0, got, e⟩ := by
      simp only [clmStepG, h2, if_true]
    have ea : clmAG ⟨2, tok, seg, slot, g, priv, got, e⟩ x = (x.set 0 (g + 1) priv).tick fun t => { t with swaps := t.swaps + 1 } := by
      show x.swapQ _ _ _ _ = _
      rw [PA.swapQ_yes (by rw [h2]; rfl), Int.toNat_natCast, show ((g : Int) + 1).toNat = g + 1 by omega]
      rfl
    have hg3 : g ≤ 3 := by
      rw [e1]
      exact segG_12 hsl
    obtain ⟨s1, s2, s3, s4⟩ := h.seg.install (by omega) p1 p2 (by rw [← eG]; exact p3) p4 (fun t => { t with swaps := t.swaps + 1 })
    refine ⟨⟨by dsimp only; omega, h1, p2⟩, ⟨G + 1, fun g => if g = G then priv else H g, fun u => if u + 1 < 2 ^ G then own u else 0, ?_⟩, ?_, ?_, fun _ => ?_⟩
    · rw [es, ea, eG]
      refine h.upd hi s1 (fun y hy => ?_) (fun j z hj hne hz hk => ?_) (fun y hy hp j z hj hne hz => ?_) (fun u hu ho => .inr ?_) ?_ (by omega)
      · cases hy
        refine ⟨htok, by dsimp only; omega, fun h1 => by dsimp only at h1; omega, fun h1 => by dsimp only at h1; omega, fun _ _ => rfl, fun h1 => (by cases h1), fun _ => ?_, fun h1 => (by cases h1), hgot⟩
        dsimp only
        rw [← e1, eG, if_pos rfl, Nat.pow_succ, h3, ← e1, eG]
        have : 1 ≤ 2 ^ G := Nat.one_le_two_pow
        exact ⟨by omega, rfl⟩
      · refine hk.keep h.seg (Nat.le_succ _) (fun k hk' => if_neg (by omega)) (fun h5 => ?_) (fun _ => by rw [s2]) (fun _ k h1 h2 => ?_)
        · have := (hk.p4 (by omega)).1
          try dsimp only
          rw [if_pos this]
        · have : k = G := by omega
          try dsimp only
          rw [if_pos this]
          exact fun e' => hoth j z hj hne hz e'.symm
      · cases hy
        exact absurd rfl hp
      · try dsimp only at ho
        split at ho
        · rename_i hu'
          refine ⟨hu', ho, fun y hy h5 => ?_⟩
          rw [hc] at hy
          cases hy
          cases h5
        · exact absurd rfl ho
      · intro S hS
        rw [hc] at hS
        replace hS : x.used ≤ S + (if priv = 0 then 0 else 7 * 2 ^ g) + 7 * (2 ^ G - 1) := hS
        show (x.set 0 (G + 1) priv).used ≤ S + (if (0 : Nat) = 0 then 0 else 7 * 2 ^ g) + _
        rw [if_neg p1, eG] at hS
        rw [s3, if_pos rfl, Nat.pow_succ]
        have : 1 ≤ 2 ^ G := Nat.one_le_two_pow
        omega
    · rw [es]
      exact .still fun j => pos_still hc (by rfl) j
    · rw [ea]
      show (x.set 0 (g + 1) priv).births ≤ _
      rw [eG, s4]; exact Nat.le_succ _
    · rw [es, ea]
      have et : ((x.set 0 (g + 1) priv).tick fun t => { t with swaps := t.swaps + 1 }).t.swaps = x.t.swaps + 1 := by
        show (x.set 0 (g + 1) priv).t.swaps + 1 = _
        rw [set_t]
      refine ⟨by rw [et]; exact Nat.le_succ _, by rw [et]; exact Nat.le_refl _, ?_, fun hh => ?_⟩
      · simp only [mayTry, Nat.reduceLeDiff, if_true, if_false]; try omega
      · simp only [mayTry, Nat.reduceLeDiff, if_true, if_false]; try omega
theorem FewB.step3 (h : FewB n c x G H own) {i : Nat} (hi : i < n) {tok seg slot g priv : Nat} {got : Bool} {e : Nat} (hc : c i = some ⟨3, tok, seg, slot, g, priv, got, e⟩) : Stepped n c x i ⟨3, tok, seg, slot, g, priv, got, e⟩ := by
  have hf := h.each i _ hi hc
  obtain ⟨e1, e2, e3⟩ := hf.pg (by dsimp only; omega)
  have hgot : got = false := hf.got
  obtain ⟨p1, p2, p3, p4⟩ := hf.p0 (.inr rfl)
  have htok := hf.tok
  dsimp only at e1 e2 e3 htok p1 p2 p3 p4
  have hoth : ∀ j z, j < n → j ≠ i → c j = some z → z.priv ≠ priv := fun j z hj hne hz e' => hne (h.apart i j _ z hi hj hc hz p1 e'.symm).symm
  obtain ⟨f1, f2, f3, f4⟩ := h.seg.free p3 p4
  have hlen : (zerosG g).length = 7 * 2 ^ g := by rw [zerosG_eq, List.length_replicate]
  have et : (x.frX (priv : Nat)).t.swaps = x.t.swaps := by unfold PA.frX; rw [Int.toNat_natCast, p3]; rfl
  have hus := h.used
  refine ⟨p2, ⟨G, H, own, ?_⟩, .still fun j => pos_still hc (by rfl) j, ?_, fun _ => ?_⟩
  · refine h.upd hi (o := some ⟨0, tok, seg, slot, g, 0, got, e⟩) f1 (fun y hy => ?_) (fun j z hj hne hz hk => ?_) (fun y hy hp j z hj hne hz => ?_) (fun u hu ho => .inr ⟨hu, ho, fun y hy h5 => ?_⟩) ?_ h.g4
    · cases hy
      exact ⟨htok, by dsimp only; omega, fun _ => ⟨e1, e2, e3⟩, fun h1 => by dsimp only at h1; omega, fun _ _ => rfl, fun h1 => (by cases h1), fun h1 => by dsimp only at h1; omega, fun h1 => (by cases h1), hgot⟩
    · exact hk.keep h.seg (Nat.le_refl _) (fun _ _ => rfl) (fun _ => rfl) (fun _ => f2 _ (hoth j z hj hne hz)) (fun _ g h1 h2 => by omega)
    · cases hy
      exact absurd rfl hp
    · rw [hc] at hy
      cases hy
      cases h5
    · intro S hS
      rw [hc] at hS
      replace hS : x.used ≤ S + (if priv = 0 then 0 else 7 * 2 ^ g) + 7 * (2 ^ G - 1) := hS
      show (x.frX (priv : Nat)).used ≤ S + (if (0 : Nat) = 0 then 0 else 7 * 2 ^ g) + _
      rw [if_neg p1] at hS
      rw [f3, hlen, if_pos rfl]
      omega
  · show (x.frX (priv : Nat)).births ≤ _
    rw [f4]; exact Nat.le_succ _
  · refine ⟨?_, ?_, ?_, fun hh => ?_⟩
    · show x.t.swaps ≤ (x.frX (priv : Nat)).t.swaps
      rw [et]; exact Nat.le_refl _
    · show (x.frX (priv : Nat)).t.swaps ≤ _
      rw [et]; exact Nat.le_succ _
    · simp only [mayTry, clmStepG, Nat.reduceLeDiff, if_true, if_false]; try omega
    · rcases hh with hh | ⟨hh, _⟩
      · exact absurd (hgot.symm.trans hh) (by decide)
      · have hh : x.t.swaps < (x.frX (priv : Nat)).t.swaps := hh
        rw [et] at hh
        exact absurd hh (Nat.lt_irrefl _)
theorem FewB.step4 (h : FewB n c x G H own) {i : Nat} (hi : i < n) (hn : n ≤ 13) {tok seg slot g priv : Nat} {got : Bool} {e : Nat} (hc : c i = some ⟨4, tok, seg, slot, g, priv, got, e⟩) (hsl : slot ≤ 12) : Stepped n c x i ⟨4, tok, seg, slot, g, priv, got, e⟩ := by
  have hf := h.each i _ hi hc
  have hgot : got = false := hf.got
  have hpr : priv = 0 := hf.p1 (by dsimp only; omega) (by dsimp only; omega)
  have htok := hf.tok
  obtain ⟨q1, q2⟩ := hf.p4 (Nat.le_refl 4)
  dsimp only at htok q1 q2
  have hg := h.g4
  obtain ⟨h1, h2⟩ := h.seg.has q1
  rw [← q2] at h1 h2
  have hnp : ∀ j z, j < n → c j = some z → z.priv ≠ 0 → ∀ g, g < G → H g ≠ z.priv := fun j z hj hz hp => by
    have hk := h.each j z hj hz
    have hph : z.ph = 2 ∨ z.ph = 3 := by
      by_cases e1 : z.ph = 2
      · exact .inl e1
      · by_cases e2 : z.ph = 3
        · exact .inr e2
        · exact absurd (hk.p1 e1 e2) hp
    exact (hk.p0 hph).2.2.2
  by_cases ho : own slot = 0
  · rw [ho] at h2
    have es : clmStepG ⟨4, tok, seg, slot, g, priv, got, e⟩ x = ⟨5, tok, seg, slot, g, priv, true, e⟩ := by
      simp only [clmStepG, h2, if_true]
    have ea : clmAG ⟨4, tok, seg, slot, g, priv, got, e⟩ x = (x.set (H (segG slot)) (5 * segO slot) tok).tick fun t => { t with swaps := t.swaps + 1 } := by
      show x.swapQ _ _ _ _ = _
      rw [PA.swapQ_yes (by rw [h2]; rfl), Int.toNat_natCast, Int.toNat_natCast, show (5 * ((segO slot : Nat) : Int)).toNat = 5 * segO slot by omega, q2]
    obtain ⟨s1, s2, s3, s4⟩ := h.seg.put q1 tok (fun t => { t with swaps := t.swaps + 1 })
    refine ⟨⟨by dsimp only; omega, h1, by dsimp only; omega⟩, ⟨G, H, fun u => if u = slot then tok else own u, ?_⟩, ?_, ?_, fun _ => ?_⟩
    · rw [es, ea]
      refine h.upd hi s1 (fun y hy => ?_) (fun j z hj hne hz hk => ?_) (fun y hy hp j z hj hne hz => ?_) (fun u hu ho' => ?_) ?_ h.g4
      · cases hy
        exact ⟨htok, Nat.le_refl 5, fun h1 => by dsimp only at h1; omega, fun h1 => by dsimp only at h1; omega, fun _ _ => hpr, fun h1 => (by cases h1), fun _ => ⟨q1, q2⟩, fun _ => if_pos rfl, rfl⟩
      · refine hk.keep h.seg (Nat.le_refl _) (fun _ _ => rfl) (fun h5 => ?_) (fun hp => s2 _ (hnp j z hj hz hp)) (fun _ g h1 h2 => by omega)
        have h6 := hk.p5 h5
        have h7 := hk.tok
        try dsimp only
        rw [if_neg fun e' => by rw [e', ho] at h6; omega]
      · cases hy
        exact absurd hpr hp
      · by_cases e' : u = slot
        · exact .inl ⟨_, rfl, rfl, e'.symm⟩
        · try dsimp only at ho'
          rw [if_neg e'] at ho'
          refine .inr ⟨hu, ho', fun y hy h5 => ?_⟩
          rw [hc] at hy
          cases hy
          cases h5
      · intro S hS
        rw [hc] at hS
        show (x.set (H (segG slot)) (5 * segO slot) tok).used ≤ _
        rw [s3]
        exact hS
    · rw [es]
      exact .still fun j => pos_still hc (by rfl) j
    · rw [ea]
      show (x.set (H (segG slot)) (5 * segO slot) tok).births ≤ _
      rw [s4]; exact Nat.le_succ _
    · rw [es, ea]
      have et : ((x.set (H (segG slot)) (5 * segO slot) tok).tick fun t => { t with swaps := t.swaps + 1 }).t.swaps = x.t.swaps + 1 := by
        show (x.set (H (segG slot)) (5 * segO slot) tok).t.swaps + 1 = _
        rw [set_t]
      refine ⟨by rw [et]; exact Nat.le_succ _, by rw [et]; exact Nat.le_refl _, ?_, fun hh => ?_⟩
      · simp only [mayTry, hgot, Nat.reduceLeDiff, if_true, if_false, Bool.false_eq_true]
        try omega
      · simp only [mayTry, hgot, Nat.reduceLeDiff, if_true, if_false, Bool.false_eq_true]
        try omega
  · have es : clmStepG ⟨4, tok, seg, slot, g, priv, got, e⟩ x = if segO (slot + 1) = 0 then ⟨0, tok, seg, slot + 1, segG (slot + 1), priv, got, e⟩ else ⟨4, tok, seg, slot + 1, g, priv, got, e⟩ := by
      simp only [clmStepG, h2]
      rw [if_neg ho]
      unfold clmOn
      dsimp only
      rw [if_neg (show ¬ 254 < slot + 1 by omega)]
    have ea : clmAG ⟨4, tok, seg, slot, g, priv, got, e⟩ x = x.tick fun t => { t with swaps := t.swaps + 1 } := PA.swapQ_no (by rw [h2]; omega)
    obtain ⟨k, w, hk, hw1, hw2, hw3⟩ := h.owner slot q1 ho
    have hki : k ≠ i := fun e' => by
      subst e'
      rw [hc] at hw1
      cases hw1
      cases hw2
    have fs := seg_facts (s := slot) (by omega)
    have fs1 := seg_facts (s := slot + 1) (by omega)
    have hslot : (clmStepG ⟨4, tok, seg, slot, g, priv, got, e⟩ x).slot = slot + 1 := by rw [es]; split <;> rfl
    refine ⟨⟨by dsimp only; omega, h1, by dsimp only; omega⟩, ⟨G, H, own, ?_⟩, ?_, ?_, fun _ => ?_⟩
    · rw [ea]
      have hsegI := h.seg.tick fun t => { t with swaps := t.swaps + 1 }
      refine h.upd hi hsegI (fun y hy => ?_) (fun j z hj hne hz hk => ?_) (fun y hy hp j z hj hne hz => ?_) (fun u hu ho => .inr ⟨hu, ho, fun y hy h5 => ?_⟩) ?_ h.g4
      · rw [es] at hy
        by_cases h0 : segO (slot + 1) = 0
        · rw [if_pos h0] at hy
          cases hy
          have hs2 : slot + 1 + 1 = 2 ^ segG (slot + 1) := by unfold segO at h0; omega
          refine ⟨htok, Nat.zero_le _, fun _ => ⟨rfl, h0, ?_⟩, fun h1 => by dsimp only at h1; omega, fun _ _ => hpr, fun h1 => (by cases h1), fun h1 => by dsimp only at h1; omega, fun h1 => (by cases h1), hgot⟩
          dsimp only
          rcases Nat.lt_or_ge G (segG (slot + 1)) with hlt | hge
          · have : 2 ^ (G + 1) ≤ 2 ^ segG (slot + 1) := Nat.pow_le_pow_right (by omega) hlt
            rw [Nat.pow_succ] at this
            have h1 : 1 ≤ 2 ^ G := Nat.one_le_two_pow
            omega
          · exact hge
        · rw [if_neg h0] at hy
          cases hy
          have hsg : segG (slot + 1) = segG slot := segG_next (by omega) h0
          refine ⟨htok, by dsimp only; omega, fun h1 => by dsimp only at h1; omega, fun h1 => by dsimp only at h1; omega, fun _ _ => hpr, fun h1 => (by cases h1), fun _ => ⟨?_, ?_⟩, fun h1 => (by cases h1), hgot⟩
          · dsimp only
            rcases Nat.lt_or_ge (slot + 1 + 1) (2 ^ G) with hlt | hge
            · exact hlt
            · exfalso
              have : slot + 1 + 1 = 2 ^ G := by omega
              have h2 := segG_of2 (t := slot + 1) this
              unfold segO at h0
              rw [h2] at h0
              omega
          · dsimp only
            rw [hsg]
            exact q2
      · exact hk.keep h.seg (Nat.le_refl _) (fun _ _ => rfl) (fun _ => rfl) (fun _ => rfl) (fun _ g h1 h2 => by omega)
      · exfalso
        rw [es] at hy
        split at hy <;> cases hy <;> exact hp hpr
      · rw [hc] at hy
        cases hy
        cases h5
      · intro S hS
        rw [hc] at hS
        replace hS : x.used ≤ S + (if priv = 0 then 0 else 7 * 2 ^ g) + 7 * (2 ^ G - 1) := hS
        rw [if_pos hpr] at hS
        show x.used ≤ _
        omega
    · refine .pass i k slot hi hk hki (fun j hj => pos_other j hj) (by unfold posF; rw [hc]; rfl) ?_ (by unfold posF; rw [hw1]; simp only [Option.map_some, hw3])
      unfold posF
      rw [putF_self]
      simp only [Option.map_some, hslot]
    · rw [ea]; exact Nat.le_succ _
    · have hg1 : (clmStepG ⟨4, tok, seg, slot, g, priv, got, e⟩ x).got = got := by rw [es]; split <;> rfl
      have hm : mayTry ⟨4, tok, seg, slot, g, priv, got, e⟩ + 1 ≤ mayTry (clmStepG ⟨4, tok, seg, slot, g, priv, got, e⟩ x) := by
        rw [es]
        by_cases h0 : segO (slot + 1) = 0
        · have hs2 : slot + 1 + 1 = 2 ^ segG (slot + 1) := by unfold segO at h0; omega
          have hlt : segG slot < segG (slot + 1) := by
            rcases Nat.lt_or_ge (segG slot) (segG (slot + 1)) with h' | h'
            · exact h'
            · have : 2 ^ segG (slot + 1) ≤ 2 ^ segG slot := Nat.pow_le_pow_right (by omega) h'
              omega
          rw [if_pos h0]
          simp only [mayTry, hgot]
          rw [if_pos (show 4 ≤ 4 by omega), if_neg (show ¬ 4 ≤ 0 by omega)]
          omega
        · rw [if_neg h0]
          simp only [mayTry, hgot]
          rw [segG_next (by omega) h0]
          omega
      rw [ea]
      exact ⟨Nat.le_succ _, Nat.le_refl _, by omega, fun _ => hm⟩
theorem FewB.step5 (h : FewB n c x G H own) {i : Nat} {y : Clm} (hc : c i = some y) (h5 : y.ph = 5) : Stepped n c x i y := by
  obtain ⟨ph, tok, seg, slot, g, priv, got, e⟩ := y
  dsimp only at h5
  subst h5
  have es : putF c i (some (clmStepG ⟨5, tok, seg, slot, g, priv, got, e⟩ x)) = c := by
    show putF c i (some ⟨5, tok, seg, slot, g, priv, got, e⟩) = c
    rw [← hc]
    funext j
    unfold putF
    by_cases e' : j = i
    · rw [if_pos e', e']
    · rw [if_neg e']
  refine ⟨trivial, ⟨G, H, own, ?_⟩, ?_, Nat.le_succ _, fun hh => absurd rfl hh⟩
  · rw [es]; exact h
  · rw [es]; exact .still fun _ => rfl
/-- A step, whatever comes next. -/
theorem FewB.step (h : FewB n c x G H own) (hinv : PA.Inv x) (hb : x.births < 100000) (hn : n ≤ 13) (hall : ∀ i y, i < n → c i = some y → y.slot ≤ 12) {i : Nat} (hi : i < n) {y : Clm} (hc : c i = some y) : Stepped n c x i y := by
  have h5 := (h.each i y hi hc).ph
  have hsl := hall i y hi hc
  obtain ⟨ph, tok, seg, slot, g, priv, got, e⟩ := y
  dsimp only at h5 hsl
  rcases (by omega : ph = 0 ∨ ph = 1 ∨ ph = 2 ∨ ph = 3 ∨ ph = 4 ∨ ph = 5) with rfl | rfl | rfl | rfl | rfl | rfl
  · exact h.step0 hi hc hsl
  · exact h.step1 hinv hb hn hall hi hc
  · exact h.step2 hi hc hsl
  · exact h.step3 hi hc
  · exact h.step4 hi hn hc hsl
  · exact h.step5 hc rfl
/-- One lets its slot go. -/
theorem FewB.gone (h : FewB n c x G H own) {i : Nat} (hi : i < n) {y : Clm} (hc : c i = some y) (h5 : y.ph = 5) :
    y.slot ≤ 254 ∧ x.Has (y.seg : Nat) (5 * (segO y.slot : Nat) : Int) ∧ (∃ own', FewB n (putF c i none) (x.writeQ (y.seg : Nat) (5 * (segO y.slot : Nat) : Int) 0) G H own') ∧ Moves n (posF c) (posF (putF c i none)) ∧
      (x.writeQ (y.seg : Nat) (5 * (segO y.slot : Nat) : Int) 0).births = x.births ∧ (x.writeQ (y.seg : Nat) (5 * (segO y.slot : Nat) : Int) 0).t.swaps = x.t.swaps := by
  have hf := h.each i y hi hc
  obtain ⟨q1, q2⟩ := hf.p4 (by omega)
  have hpr : y.priv = 0 := hf.p1 (by omega) (by omega)
  obtain ⟨h1, h2⟩ := h.seg.has q1
  rw [← q2] at h1 h2
  have ea : x.writeQ (y.seg : Nat) (5 * (segO y.slot : Nat) : Int) 0 = (x.set (H (segG y.slot)) (5 * segO y.slot) 0).tick fun t => { t with writes := t.writes + 1 } := by
    unfold PA.writeQ PA.write
    rw [Int.toNat_natCast, show (5 * ((segO y.slot : Nat) : Int)).toNat = 5 * segO y.slot by omega, q2]
    rfl
  obtain ⟨s1, s2, s3, s4⟩ := h.seg.put q1 0 (fun t => { t with writes := t.writes + 1 })
  have hnp : ∀ j z, j < n → c j = some z → z.priv ≠ 0 → ∀ g, g < G → H g ≠ z.priv := fun j z hj hz hp => by
    have hk := h.each j z hj hz
    have hph : z.ph = 2 ∨ z.ph = 3 := by
      by_cases e1 : z.ph = 2
      · exact .inl e1
      · by_cases e2 : z.ph = 3
        · exact .inr e2
        · exact absurd (hk.p1 e1 e2) hp
    exact (hk.p0 hph).2.2.2
  refine ⟨(h.seg.seg_lt q1).2, h1, ⟨fun u => if u = y.slot then 0 else own u, ?_⟩, ?_, ?_, ?_⟩
  · rw [ea]
    refine h.upd hi s1 (fun y hy => by cases hy) (fun j z hj hne hz hk => ?_) (fun y hy => by cases hy) (fun u hu ho' => .inr ?_) ?_ h.g4
    · refine hk.keep h.seg (Nat.le_refl _) (fun _ _ => rfl) (fun h6 => ?_) (fun hp => s2 _ (hnp j z hj hz hp)) (fun _ g h1 h2 => by omega)
      have h7 := hk.p5 h6
      have h8 := hk.tok
      have h9 := hf.p5 h5
      have h10 := hf.tok
      try dsimp only
      rw [if_neg fun e' => by rw [e', h9] at h7; omega]
    · try dsimp only at ho'
      split at ho'
      · exact absurd rfl ho'
      · rename_i hne
        refine ⟨hu, ho', fun z hz h6 => ?_⟩
        rw [hc] at hz
        cases hz
        exact fun e' => hne e'.symm
    · intro S hS
      rw [hc] at hS
      replace hS : x.used ≤ S + (if y.priv = 0 then 0 else 7 * 2 ^ y.g) + 7 * (2 ^ G - 1) := hS
      rw [if_pos hpr] at hS
      show (x.set (H (segG y.slot)) (5 * segO y.slot) 0).used ≤ S + 0 + _
      rw [s3]
      exact hS
  · refine .goes i hi (fun j hj => pos_other j hj) ?_
    unfold posF
    rw [putF_self]
    rfl
  · rw [ea]; exact s4
  · rw [ea]
    show (x.set (H (segG y.slot)) (5 * segO y.slot) 0).t.swaps = _
    rw [set_t]
/-- One begins. -/
theorem FewB.come (h : FewB n c x G H own) {i : Nat} (hi : i < n) (hc : c i = none) (o : XP.X) : FewB n (putF c i (some (clm0 ((i : Int) + 1) o))) x G H own ∧ Moves n (posF c) (posF (putF c i (some (clm0 ((i : Int) + 1) o)))) := by
  have et : ((i : Int) + 1).toNat = i + 1 := by omega
  refine ⟨h.upd hi h.seg (fun y hy => ?_) (fun j z hj hne hz hk => hk) (fun y hy hp => ?_) (fun u hu ho => .inr ⟨hu, ho, fun y hy => by rw [hc] at hy; cases hy⟩) ?_ h.g4, ?_⟩
  · cases hy
    exact ⟨et, Nat.zero_le _, fun _ => ⟨rfl, rfl, Nat.zero_le _⟩, fun h1 => (by rcases h1 with h1 | h1 <;> cases h1), fun _ _ => rfl, fun h1 => (by cases h1), fun h1 => absurd h1 (show ¬ 4 ≤ 0 by decide), fun h1 => (by cases h1), rfl⟩
  · cases hy
    exact absurd rfl hp
  · intro S hS
    rw [hc] at hS
    exact hS
  · refine .comes i hi (fun j hj => pos_other j hj) (by unfold posF; rw [hc]; rfl) ?_
    unfold posF
    rw [putF_self]
    rfl
/-- Nobody has another one's slot. -/
theorem FewB.own_slot (h : FewB n c x G H own) {i j : Nat} {y z : Clm} (hi : i < n) (hj : j < n) (hc : c i = some y) (hd : c j = some z) (h5 : y.ph = 5) (h6 : z.ph = 5) (e : y.slot = z.slot) : i = j := by
  have h1 := (h.each i y hi hc).p5 h5
  have h2 := (h.each i y hi hc).tok
  have h3 := (h.each j z hj hd).p5 h6
  have h4 := (h.each j z hj hd).tok
  rw [e] at h1
  omega
end
end Go.Proofs.Ytnfpkadepomjjaa
