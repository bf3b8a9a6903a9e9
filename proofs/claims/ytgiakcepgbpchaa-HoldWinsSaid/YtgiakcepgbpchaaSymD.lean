/- The executor: two states against one another, names apart. The executor: a state that has come to a loop's head, or to a cut. The executor: values written out, so that nothing is reckoned twice. The executor: code, loops, calls; the way in. The executor: a function's whole code; calls by contract or by their text; the way in. The executor: contracts as it takes them. -/
import Derived.Test.YtgiakcepgbpchaaSymC
namespace Go.Proofs.Ytgiakcepgbpchaa
open Go Go.RowKit

mutual
def SC.ren (τ : Nat → Nat) : SC → SC
  | .ptr n o => .ptr (τ n) o
  | .elp n i k f => .elp (τ n) i k f
  | .sli n k lo o ll len cap => .sli (τ n) k lo o ll len cap
  | .map n => .map (τ n)
  | .fn f a c => .fn f (SC.renL τ a) (SC.renL τ c)
  | .ifc t x => .ifc t (x.ren τ)
  | x => x
termination_by structural x => x
def SC.renL (τ : Nat → Nat) : List SC → List SC
  | [] => []
  | x :: l => x.ren τ :: SC.renL τ l
termination_by structural l => l
end
mutual
theorem SC.den_ren (τ ν : Nat → Nat) : ∀ x : SC, (x.ren τ).den ν = x.den (ν ∘ τ)
  | .int _ _ _ _ => by simp [SC.ren, SC.den]
  | .boo _ _ => by simp [SC.ren, SC.den]
  | .ptr n _ => by simp [SC.ren, SC.den]
  | .elp n _ _ _ => by simp [SC.ren, SC.den]
  | .sli n _ _ _ _ _ _ => by simp [SC.ren, SC.den]
  | .nls => by simp [SC.ren, SC.den]
  | .map n => by simp [SC.ren, SC.den]
  | .fn f a c => by simp only [SC.ren, SC.den]; rw [SC.denL_ren τ ν a, SC.denL_ren τ ν c]
  | .ifc t x => by simp only [SC.ren, SC.den]; rw [SC.den_ren τ ν x]
  | .sliv _ _ _ _ => by simp [SC.ren, SC.den]
  | .ptv _ => by simp [SC.ren, SC.den]
  | .raw _ => by simp [SC.ren, SC.den]
theorem SC.denL_ren (τ ν : Nat → Nat) : ∀ l : List SC, SC.denL ν (SC.renL τ l) = SC.denL (ν ∘ τ) l
  | [] => by simp [SC.renL, SC.denL]
  | x :: l => by simp only [SC.renL, SC.denL]; rw [SC.den_ren τ ν x, SC.denL_ren τ ν l]
end
def SV.ren (τ : Nat → Nat) : SV → SV
  | .c x => .c (x.ren τ)
  | .agg l => .agg (SC.renL τ l)
  | .tup l => .tup (l.map fun p => (p.1, SC.renL τ p.2))
theorem partDen_ren (τ ν : Nat → Nat) (p : Bool × List SC) : partDen ν (p.1, SC.renL τ p.2) = partDen (ν ∘ τ) p := by
  obtain ⟨b, l⟩ := p
  cases b with
  | true => simp only [partDen]; rw [SC.denL_ren]
  | false =>
    match l with
    | [] => rfl
    | [x] => simp only [SC.renL, partDen]; exact SC.den_ren τ ν x
    | _ :: _ :: _ => rfl
theorem SV.den_ren (τ ν : Nat → Nat) (x : SV) : (x.ren τ).den ν = x.den (ν ∘ τ) := by
  cases x with
  | c x => exact SC.den_ren τ ν x
  | agg l => simp only [SV.ren, SV.den]; rw [SC.denL_ren]
  | tup l =>
    simp only [SV.ren, SV.den, List.map_map]
    congr 2
    apply List.map_congr_left
    intro p _
    exact partDen_ren τ ν p
section
variable {E : EXT} {P : Program}
def SO.ren (τ : Nat → Nat) : SO E → SO E
  | .cells l t => .cells (SC.renL τ l) t
  | .row t k n c l => .row t k n c (SC.renL τ l)
  | .ext x => .ext (E.ren τ x)
  | o => o
theorem SO.den_ren (τ ν : Nat → Nat) (b : Nat) (o : SO E) : (o.ren τ).den ν b = o.den (ν ∘ τ) b := by
  cases o with
  | cells l t => simp only [SO.ren, SO.den]; rw [SC.denL_ren]
  | row t k n c l => simp only [SO.ren, SO.den]; rw [SC.denL_ren]
  | ext x => exact E.rlaw τ ν b x
  | _ => rfl

mutual
def eqC : SC → SC → Prop
  | .int _ k a _, .int _ k' b _ => if k = k' then a = b else Stuck 500
  | .boo _ a, .boo _ b => a = b
  | .ptr n o, .ptr n' o' => if n = n' then o = o' else Stuck 501
  | .elp n i k f, .elp n' i' k' f' => if n = n' then (i = i' ∧ k = k' ∧ f = f') else Stuck 502
  | .sli n k _ o _ len cap, .sli n' k' _ o' _ len' cap' => if n = n' then (if k = k' then (o = o' ∧ len = len' ∧ cap = cap') else Stuck 503) else Stuck 504
  | .nls, .nls => True
  | .map n, .map n' => if n = n' then True else Stuck 505
  | .fn f a c, .fn f' a' c' => if f = f' then (eqCL a a' ∧ eqCL c c') else Stuck 506
  | .ifc t x, .ifc t' x' => if t = t' then eqC x x' else Stuck 507
  | .sliv a _ n c, .sliv a' _ n' c' => a = a' ∧ n = n' ∧ c = c'
  | .ptv a, .ptv a' => a = a'
  | .raw v, .raw v' => v = v'
  | _, _ => Stuck 508
termination_by structural x => x
def eqCL : List SC → List SC → Prop
  | [], [] => True
  | x :: l, y :: m => eqC x y ∧ eqCL l m
  | _, _ => Stuck 509
termination_by structural l => l
end
mutual
theorem eqC_den (ν : Nat → Nat) : ∀ {x y : SC}, eqC x y → x.den ν = y.den ν
  | .int _ k a _, y, h => by
    cases y <;> simp only [eqC] at h <;> try exact h.elim
    split at h
    · simp [SC.den, *]
    · exact h.elim
  | .boo _ a, y, h => by cases y <;> simp only [eqC] at h <;> first | exact h.elim | simp [SC.den, h]
  | .ptr n o, y, h => by
    cases y <;> simp only [eqC] at h <;> try exact h.elim
    split at h
    · simp [SC.den, *]
    · exact h.elim
  | .elp n i k f, y, h => by
    cases y <;> simp only [eqC] at h <;> try exact h.elim
    split at h
    · simp [SC.den, *]
    · exact h.elim
  | .sli n k _ o _ len cap, y, h => by
    cases y <;> simp only [eqC] at h <;> try exact h.elim
    split at h
    · split at h
      · simp [SC.den, *]
      · exact h.elim
    · exact h.elim
  | .nls, y, h => by cases y <;> simp only [eqC] at h <;> first | exact h.elim | rfl
  | .map n, y, h => by
    cases y <;> simp only [eqC] at h <;> try exact h.elim
    split at h
    · simp [SC.den, *]
    · exact h.elim
  | .fn f a c, y, h => by
    cases y <;> simp only [eqC] at h <;> try exact h.elim
    split at h
    · rename_i hf
      simp only [SC.den, hf]
      rw [eqCL_den ν h.1, eqCL_den ν h.2]
    · exact h.elim
  | .ifc t x, y, h => by
    cases y <;> simp only [eqC] at h <;> try exact h.elim
    split at h
    · rename_i ht
      simp only [SC.den, ht]
      rw [eqC_den ν h]
    · exact h.elim
  | .sliv a _ n c, y, h => by cases y <;> simp only [eqC] at h <;> first | exact h.elim | simp [SC.den, h]
  | .ptv a, y, h => by cases y <;> simp only [eqC] at h <;> first | exact h.elim | simp [SC.den, h]
  | .raw v, y, h => by cases y <;> simp only [eqC] at h <;> first | exact h.elim | simp [SC.den, h]
theorem eqCL_den (ν : Nat → Nat) : ∀ {l m : List SC}, eqCL l m → SC.denL ν l = SC.denL ν m
  | [], [], _ => rfl
  | x :: l, y :: m, h => by
    simp only [eqCL] at h
    simp only [SC.denL]
    rw [eqC_den ν h.1, eqCL_den ν h.2]
  | [], _ :: _, h => by simp only [eqCL] at h; exact h.elim
  | _ :: _, [], h => by simp only [eqCL] at h; exact h.elim
end
def eqV : SV → SV → Prop
  | .c x, .c y => eqC x y
  | .agg l, .agg m => eqCL l m
  | .tup [], .tup [] => True
  | _, _ => Stuck 510
theorem eqV_den (ν : Nat → Nat) {x y : SV} (h : eqV x y) : x.den ν = y.den ν := by
  unfold eqV at h
  split at h
  · exact eqC_den ν h
  · simp only [SV.den]; rw [eqCL_den ν h]
  · rfl
  · exact h.elim
def intsL (k : IntKind) (f : Nat → Int) : Nat → List SC → Prop
  | _, [] => True
  | i, x :: l => (match x with | .int _ k' a _ => if k = k' then f i = a else Stuck 507 | _ => Stuck 507) ∧ intsL k f (i + 1) l
theorem intsL_den (ν : Nat → Nat) {k : IntKind} {f : Nat → Int} : ∀ {l : List SC} {i : Nat}, intsL k f i l → SC.denL ν l = (List.range l.length).map fun j => .int k (f (i + j))
  | [], _, _ => rfl
  | x :: l, i, h => by
    simp only [intsL] at h
    obtain ⟨h1, h2⟩ := h
    split at h1
    · split at h1
      · rename_i hk
        subst hk
        rw [SC.denL, intsL_den ν h2]
        simp only [SC.den, List.length_cons, List.range_succ_eq_map, List.map_cons, List.map_map, Nat.add_zero, h1]
        congr 1
        apply List.map_congr_left
        intro j _
        simp [Nat.add_assoc, Nat.add_comm 1 j]
      · exact h1.elim
    · exact h1.elim
def eqO : SO E → SO E → Prop
  | .cells l t, .cells l' t' => if t = t' then eqCL l l' else Stuck 511
  | .row t k n c l, .row t' k' n' c' l' => if t = t' then (if k = k' then (n = n' ∧ c = c' ∧ eqCL l l') else Stuck 512) else Stuck 513
  | .ints t k n c f, .ints t' k' n' c' f' => if t = t' then (if k = k' then (n = n' ∧ c = c' ∧ ∀ i, i < n → f i = f' i) else Stuck 514) else Stuck 515
  | .vals t k n c f, .vals t' k' n' c' f' => if t = t' then (if k = k' then (n = n' ∧ c = c' ∧ ∀ i, i < n → f i = f' i) else Stuck 516) else Stuck 517
  | .ints t k n c f, .cells l t' => if t = t' then (n = l.length ∧ c = l.length ∧ l.length ≤ 1000000000 ∧ intsL k f 0 l) else Stuck 519
  | .ints t k n c f, .row t' k' n' c' l => if t = t' then (if k' = 1 then (n = l.length ∧ c = c' ∧ intsL k f 0 l) else Stuck 519) else Stuck 519
  | .mp l, .mp l' => l = l'
  | .seen W, .seen W' => W = W'
  | .ext x, .ext y => x = y
  | _, _ => Stuck 518
theorem intsOf_congr {k : IntKind} {n : Nat} {f g : Nat → Int} (h : ∀ i, i < n → f i = g i) : intsOf k n f = intsOf k n g := by
  unfold intsOf
  apply List.map_congr_left
  intro i hi
  rw [h i (List.mem_range.1 hi)]
theorem valsOf_congr {n : Nat} {f g : Nat → List Value} (h : ∀ i, i < n → f i = g i) : valsOf n f = valsOf n g := by
  unfold valsOf
  rw [List.flatMap_def, List.flatMap_def]
  congr 1
  apply List.map_congr_left
  intro i hi
  exact h i (List.mem_range.1 hi)
theorem eqO_den (ν : Nat → Nat) (b : Nat) {x y : SO E} (h : eqO x y) {w : World} {Q : Assn} (H : Sat w (y.den ν b * Q)) : Sat w (x.den ν b * Q) := by
  unfold eqO at h
  split at h
  · split at h
    · rename_i ht; subst ht; simp only [SO.den] at H ⊢; rw [eqCL_den ν h]; exact H
    · exact h.elim
  · split at h
    · split at h
      · rename_i ht hk
        subst ht hk
        obtain ⟨rfl, rfl, h⟩ := h
        simp only [SO.den] at H ⊢; rw [eqCL_den ν h]; exact H
      · exact h.elim
    · exact h.elim
  · split at h
    · split at h
      · rename_i ht hk
        subst ht hk
        obtain ⟨rfl, rfl, h⟩ := h
        simp only [SO.den] at H ⊢; rw [intsOf_congr h]; exact H
      · exact h.elim
    · exact h.elim
  · split at h
    · split at h
      · rename_i ht hk
        subst ht hk
        obtain ⟨rfl, rfl, h⟩ := h
        simp only [SO.den] at H ⊢
        rw [valsOf_congr h]
        rw [Assn.mul_assoc] at H ⊢
        obtain ⟨hl, H⟩ := H.pure_mul
        exact Sat.mk_pure_mul (fun i hi => by rw [h i hi]; exact hl i hi) H
      · exact h.elim
    · exact h.elim
  · split at h
    · rename_i t k n c f l t' ht
      subst ht
      obtain ⟨rfl, rfl, h9, h⟩ := h
      simp only [SO.den] at H ⊢
      have e := intsL_den ν h
      simp only [Nat.zero_add] at e
      refine Sat.mk_ex_mul (SC.denL ν l).toArray ?_
      rw [Assn.mul_assoc]
      refine Sat.mk_pure_mul ⟨by simp [intsOf], Nat.le_refl _, by unfold maxLen; omega, by rw [e]; simp, ?_⟩ H
      rw [e]
      simp only [intsOf]
      rw [List.take_of_length_le (by simp)]
    · exact h.elim
  · split at h
    · split at h
      · rename_i t k n c f t' k' n' c' l ht hk
        subst ht hk
        obtain ⟨rfl, rfl, h⟩ := h
        simp only [SO.den] at H ⊢
        have e := intsL_den ν h
        simp only [Nat.zero_add] at e
        obtain ⟨cur, H1⟩ := H.ex_mul
        rw [Assn.mul_assoc] at H1
        obtain ⟨⟨h0, h1, h2, h3, h4⟩, H2⟩ := H1.pure_mul
        clear H H1
        have hn : n' = l.length := by rw [denL_map, List.length_map] at h0; omega
        subst hn
        refine Sat.mk_ex_mul cur ?_
        rw [Assn.mul_assoc]
        refine Sat.mk_pure_mul ⟨by simp [intsOf], h1, h2, h3, ?_⟩ H2
        rw [h4, e]
        rfl
      · exact h.elim
    · exact h.elim
  · subst h; exact H
  · subst h; exact H
  · subst h; exact H
  · exact h.elim
end
end Go.Proofs.Ytgiakcepgbpchaa
namespace Go.Proofs.Ytgiakcepgbpchaa
open Go Go.RowKit

abbrev Ren := List (Nat × Nat)
def Ren.app : Ren → Nat → Nat
  | [], n => n
  | (a, b) :: r, n => if a = n then b else Ren.app r n
def Ren.has : Ren → Nat → Bool
  | [], _ => false
  | (a, _) :: r, n => if a = n then true else Ren.has r n
def addR (N n m : Nat) (r : Ren) : Ren := bif Nat.ble N n && !(r.has n) then (n, m) :: r else r
/-- All that is renamed is at least N. -/
def Ren.Low (N : Nat) (r : Ren) : Prop := ∀ n, n < N → r.app n = n
theorem addR_low {N n m : Nat} {r : Ren} (h : r.Low N) : (addR N n m r).Low N := by
  unfold addR
  cases hc : Nat.ble N n && !(r.has n)
  · exact h
  · simp only [cond_true]
    simp only [Bool.and_eq_true, Nat.ble_eq] at hc
    intro k hk
    simp only [Ren.app]
    rw [if_neg (by omega)]
    exact h k hk
def addAll (N : Nat) : List Nat → List Nat → Ren → Ren
  | n :: l, m :: k, r => addAll N l k (addR N n m r)
  | _, _, r => r
theorem addAll_low {N : Nat} : ∀ (l k : List Nat) {r : Ren}, r.Low N → (addAll N l k r).Low N
  | [], _, _, h => by simpa [addAll] using h
  | _ :: _, [], _, h => by simpa [addAll] using h
  | n :: l, m :: k, r, h => by simp only [addAll]; exact addAll_low l k (addR_low h)

section
variable {E : EXT} {P : Program}

/-- Which names stand for which: those of the one in their order against those of the other. -/
def infSlots (N : Nat) (f : SF) : List (Nat × SV) → Ren → Ren
  | [], r => r
  | (t, v) :: l, r => infSlots N f l (addAll N v.names (f.at t).names r)
def infHeap (N : Nat) (h : SH E) : List (Nat × SO E) → Ren → Ren
  | [], r => r
  | (n, o) :: l, r => match h.get (r.app n) with
    | some o' => infHeap N h l (addAll N o.names o'.names r)
    | none => infHeap N h l r
theorem infSlots_low {N : Nat} {f : SF} : ∀ (l : List (Nat × SV)) {r : Ren}, r.Low N → (infSlots N f l r).Low N
  | [], _, h => h
  | (t, v) :: l, r, h => by simp only [infSlots]; exact infSlots_low l (addAll_low _ _ h)
theorem infHeap_low {N : Nat} {h : SH E} : ∀ (l : List (Nat × SO E)) {r : Ren}, r.Low N → (infHeap N h l r).Low N
  | [], _, h => h
  | (n, o) :: l, r, hr => by
    simp only [infHeap]
    split
    · exact infHeap_low l (addAll_low _ _ hr)
    · exact infHeap_low l hr
def slotOf : List (Nat × SV) → Nat → Option SV
  | [], _ => none
  | (a, v) :: l, t => if a = t then some v else slotOf l t
/-- The frame at the head: what is listed, what is written and not listed (anything), the rest as it was. -/
def headF (W : Nat → Bool) (L : List (Nat × SV)) (ρ : Nat → Value) (f0 : SF) : SF :=
  SF.tab f0.n fun t => match slotOf L t with | some v => v | none => bif W t then .c (.raw (ρ t)) else f0.t.get t
/-- All that isn't listed, nor written, is as it was. -/
def sameT (W : Nat → Bool) (L : List (Nat × SV)) (f g : ST) : List Nat → Prop → Prop
  | [], q => q
  | t :: l, q => match slotOf L t with
    | some _ => sameT W L f g l q
    | none => bif W t then sameT W L f g l q else sameV (f.get t) (g.get t) (sameT W L f g l q)
def sameF (W : Nat → Bool) (L : List (Nat × SV)) (f g : SF) (q : Prop) : Prop := if f.n = g.n then sameT W L f.t g.t (List.range f.n) q else Stuck 568
theorem sameT_ok {W : Nat → Bool} {L : List (Nat × SV)} {f g : ST} : ∀ {l : List Nat} {q : Prop}, sameT W L f g l q → q ∧ ∀ t ∈ l, slotOf L t = none → W t = false → ∀ ν, (f.get t).den ν = (g.get t).den ν
  | [], _, h => ⟨h, by intro t ht; cases ht⟩
  | t :: l, q, h => by
    simp only [sameT] at h
    have key : ∀ {q}, sameT W L f g l q → (slotOf L t = none → W t = false → ∀ ν, (f.get t).den ν = (g.get t).den ν) → q ∧ ∀ u ∈ t :: l, slotOf L u = none → W u = false → ∀ ν, (f.get u).den ν = (g.get u).den ν := by
      intro q h ht
      obtain ⟨h1, h2⟩ := sameT_ok h
      refine ⟨h1, fun u hu => ?_⟩
      cases hu with
      | head => exact ht
      | tail _ hm => exact h2 u hm
    split at h
    · rename_i v hv
      exact key h fun e => by rw [hv] at e; cases e
    · cases hw : W t <;> rw [hw] at h
      · exact key (sameV_den id h).2 fun _ _ ν => (sameV_den ν h).1
      · exact key h fun _ e => by rw [hw] at e; cases e
theorem sameF_ok {W : Nat → Bool} {L : List (Nat × SV)} {f g : SF} {q : Prop} (h : sameF W L f g q) : f.n = g.n ∧ q ∧ ∀ t, t < f.n → slotOf L t = none → W t = false → ∀ ν, (f.t.get t).den ν = (g.t.get t).den ν := by
  unfold sameF at h
  split at h
  · rename_i hn
    obtain ⟨h1, h2⟩ := sameT_ok h
    exact ⟨hn, h1, fun t ht => h2 t (List.mem_range.2 ht)⟩
  · exact h.elim
def slotsEq (τ : Nat → Nat) (f : SF) : List (Nat × SV) → Prop → Prop
  | [], q => q
  | (t, v) :: l, q => sameV (v.ren τ) (f.at t) (slotsEq τ f l q)
def heapEq (τ : Nat → Nat) (h : SH E) : List (Nat × SO E) → Prop → Prop
  | [], q => q
  | (n, o) :: l, q => (match h.get (τ n) with | some o' => eqO (o.ren τ) o' | none => Stuck 520) ∧ heapEq τ h l q
theorem slotsEq_ok {τ : Nat → Nat} {f : SF} : ∀ {L : List (Nat × SV)} {q : Prop}, slotsEq τ f L q → q
  | [], _, h => h
  | (t, v) :: l, q, h => slotsEq_ok (sameV_den id h).2
def Close (N : Nat) (W : Nat → Bool) (f0 : SF) (keep : SH E) (I : List (Nat × SV) × List (Nat × SO E)) (f : SF) (h : SH E) : Prop :=
  let τ := Ren.app (infHeap N h I.2 (infSlots N f I.1 []))
  bif nodupB (I.2.map (fun p => τ p.1) ++ List.map (fun p => p.1) keep) then
    sameF W I.1 f f0 (subH keep h (slotsEq τ f I.1 (heapEq τ h I.2 True))) else Stuck 521
/-- What stays is named below N. -/
def lowB (N : Nat) (W : Nat → Bool) (L : List (Nat × SV)) (f0 : SF) (keep : SH E) : Bool :=
  (List.range f0.n).all (fun t => match slotOf L t with | some _ => true | none => W t || (f0.t.get t).names.all (fun m => Nat.blt m N)) && (SH.names keep).all (fun m => Nat.blt m N)
theorem slotsEq_at {τ : Nat → Nat} {f : SF} : ∀ {L : List (Nat × SV)} {q : Prop}, slotsEq τ f L q → ∀ {t : Nat} {v : SV}, slotOf L t = some v → ∀ μ, (v.ren τ).den μ = (f.at t).den μ
  | [], _, _, _, _, h => by simp [slotOf] at h
  | (a, u) :: L, q, hs, t, v, h => by
    intro μ
    simp only [slotOf] at h
    split at h
    · rename_i e
      cases h
      subst e
      exact (sameV_den μ hs).1
    · exact slotsEq_at (sameV_den id hs).2 h μ
theorem headF_sound {W : Nat → Bool} {L : List (Nat × SV)} {τ μ : Nat → Nat} {N : Nat} {f f0 : SF} {q0 q : Prop} (hτ : ∀ n, n < N → τ n = n) (hs : slotsEq τ f L q0) (hm : sameF W L f f0 q)
    (hn : (List.range f0.n).all (fun t => match slotOf L t with | some _ => true | none => W t || (f0.t.get t).names.all (fun m => Nat.blt m N)) = true) :
    actOf μ f = actOf (μ ∘ τ) (headF W L (fun t => (f.at t).den μ) f0) := by
  obtain ⟨e, _, hm⟩ := sameF_ok hm
  refine actOf_of e fun t ht => ?_
  unfold headF
  rw [SF.tab_get (by rw [← e]; exact ht)]
  have hn := List.all_eq_true.1 hn t (List.mem_range.2 (by rw [← e]; exact ht))
  have hx := SF.at_lt ht
  cases hl : slotOf L t with
  | some v =>
    have := slotsEq_at hs hl μ
    rw [SV.den_ren, hx] at this
    exact this.symm
  | none =>
    rw [hl] at hn
    simp only at hn ⊢
    cases hw : W t <;> rw [hw] at hn
    · simp only [cond_false, Bool.false_or] at hn ⊢
      rw [hm t ht hl hw μ]
      refine SV.den_eq _ fun n hn' => ?_
      have := List.all_eq_true.1 hn n hn'
      simp only [Nat.blt_eq] at this
      simp [hτ n this]
    · simp only [cond_true, SV.den, SC.den, hx]
def imgOf (τ : Nat → Nat) (h : SH E) : List (Nat × SO E) → SH E
  | [] => []
  | (n, _) :: l => match h.get (τ n) with
    | some o' => (τ n, o') :: imgOf τ h l
    | none => imgOf τ h l
theorem imgOf_get {τ : Nat → Nat} {h : SH E} : ∀ (l : List (Nat × SO E)), ∀ p ∈ imgOf τ h l, h.get p.1 = some p.2
  | [], _, hp => by simp [imgOf] at hp
  | (n, o) :: l, p, hp => by
    simp only [imgOf] at hp
    split at hp
    · rename_i o' ho
      cases hp with
      | head => exact ho
      | tail _ hm => exact imgOf_get l p hm
    · exact imgOf_get l p hp
theorem imgOf_names {τ : Nat → Nat} {h : SH E} : ∀ {l : List (Nat × SO E)} {q : Prop}, heapEq τ h l q → List.map (fun p => p.1) (imgOf τ h l) = l.map (fun p => τ p.1)
  | [], _, _ => rfl
  | (n, o) :: l, q, he => by
    simp only [heapEq] at he
    simp only [imgOf]
    split
    · rename_i o' ho
      simp only [List.map_cons, List.cons.injEq, true_and]
      exact imgOf_names he.2
    · rename_i ho
      rw [ho] at he
      exact he.1.elim
theorem imgOf_den {τ μ : Nat → Nat} {h : SH E} {w : World} : ∀ {l : List (Nat × SO E)} {q : Prop} {Q : Assn}, heapEq τ h l q → Sat w (SH.den μ (imgOf τ h l) * Q) → Sat w (SH.den (μ ∘ τ) l * Q)
  | [], _, _, _, H => H
  | (n, o) :: l, q, Q, he, H => by
    simp only [heapEq] at he
    simp only [imgOf] at H
    split at H
    · rename_i o' ho
      rw [ho] at he
      simp only [SH.den] at H ⊢
      rw [Assn.mul_assoc] at H
      have h1 := eqO_den μ _ he.1 H
      rw [SO.den_ren] at h1
      have h2 : Sat w (SH.den μ (imgOf τ h l) * (o.den (μ ∘ τ) (μ (τ n)) * Q)) := h1.cast (by ac_rfl)
      have h3 := imgOf_den he.2 h2
      exact h3.cast (by simp only [Function.comp]; ac_rfl)
    · rename_i ho
      rw [ho] at he
      exact he.1.elim
theorem SH.den_append {ν : Nat → Nat} : ∀ (a b : SH E), SH.den ν (a ++ b) = SH.den ν a * SH.den ν b
  | [], b => by simp only [List.nil_append, SH.den]; rw [Assn.one_mul]
  | (n, o) :: a, b => by simp only [List.cons_append, SH.den]; rw [SH.den_append a b, Assn.mul_assoc]
theorem Close_sound {N : Nat} {W : Nat → Bool} {f0 : SF} {keep : SH E} {I : List (Nat × SV) × List (Nat × SO E)} {f : SF} {h : SH E} (hc : Close N W f0 keep I f h) (hl : lowB N W I.1 f0 keep = true)
    {μ : Nat → Nat} {w : World} {R : Assn} (H : Sat w (h.den μ * R)) : ∃ ν ρ, Agree N μ ν ∧ actOf μ f = actOf ν (headF W I.1 ρ f0) ∧ Sat w (SH.den ν (I.2 ++ keep) * R) := by
  unfold Close at hc
  simp only at hc
  have hlow : (infHeap N h I.2 (infSlots N f I.1 [])).Low N := infHeap_low _ (infSlots_low _ (fun _ _ => rfl))
  generalize infHeap N h I.2 (infSlots N f I.1 []) = r at *
  cases hnd : nodupB (I.2.map (fun p => r.app p.1) ++ List.map (fun p => p.1) keep) <;> rw [hnd] at hc
  · exact hc.elim
  simp only [cond_true] at hc
  have hm := hc
  have hc := (sameF_ok hc).2.1
  obtain ⟨⟨keep', k1, k2, k3⟩, hc⟩ := subH_img hc
  have hs := hc
  have hh := slotsEq_ok hc
  simp only [lowB, Bool.and_eq_true] at hl
  refine ⟨μ ∘ r.app, fun t => (f.at t).den μ, fun n hn => by simp [hlow n hn], ?_, ?_⟩
  · exact headF_sound hlow hs hm hl.1
  · have h1 : ∀ p ∈ (imgOf r.app h I.2 ++ keep' : SH E), h.get p.1 = some p.2 := fun p hp => by
      rcases List.mem_append.1 hp with hp | hp
      · exact imgOf_get _ p hp
      · exact k2 p hp
    have h2 : nodupB (List.map (fun p => p.1) (imgOf r.app h I.2 ++ keep' : SH E)) = true := by rw [List.map_append, imgOf_names hh, k1]; exact hnd
    have := subEq_sat h1 h2 H
    rw [SH.den_append, Assn.mul_assoc, k3] at this
    have this := imgOf_den hh this
    rw [SH.den_append, Assn.mul_assoc]
    have hkk : SH.den μ keep = SH.den (μ ∘ r.app) keep := SH.den_eq keep fun n hn => by
      have := List.all_eq_true.1 hl.2 n hn
      simp only [Nat.blt_eq] at this
      simp [hlow n this]
    rw [← hkk]
    exact this
end
end Go.Proofs.Ytgiakcepgbpchaa
namespace Go.Proofs.Ytgiakcepgbpchaa
open Go Go.RowKit

section
variable {α : Sort _}
def forceB (b : Bool) (K : Bool → α) : α := match b with | true => K true | false => K false
def forceN (n : Nat) (K : Nat → α) : α := match n with | 0 => K 0 | n + 1 => K (n + 1)
theorem forceB_eq (b : Bool) (K : Bool → α) : forceB b K = K b := by cases b <;> rfl
theorem forceN_eq (n : Nat) (K : Nat → α) : forceN n K = K n := by cases n <;> rfl
def forceI (l : Bool) (n : Int) (K : Int → α) : α := match l with
  | true => (match n with | .ofNat m => forceN m fun m => K (.ofNat m) | .negSucc m => forceN m fun m => K (.negSucc m))
  | false => K n
theorem forceI_eq (l : Bool) (n : Int) (K : Int → α) : forceI l n K = K n := by
  cases l
  · rfl
  · cases n <;> simp only [forceI, forceN_eq]
def forceNum (n : Int) (b : Bd n) (K : (n : Int) → Bd n → α) : α := match n, b with
  | .ofNat 0, b => K (.ofNat 0) b
  | .ofNat (m + 1), b => K (.ofNat (m + 1)) b
  | .negSucc 0, b => K (.negSucc 0) b
  | .negSucc (m + 1), b => K (.negSucc (m + 1)) b
theorem forceNum_eq (n : Int) (b : Bd n) (K : (n : Int) → Bd n → α) : forceNum n b K = K n b := by unfold forceNum; split <;> rfl
def forceLo {n hi : Int} (lo : Int) (h : lo ≤ n ∧ n ≤ hi) (K : (lo : Int) → lo ≤ n ∧ n ≤ hi → α) : α := match lo, h with
  | .ofNat 0, h => K (.ofNat 0) h
  | .ofNat (m + 1), h => K (.ofNat (m + 1)) h
  | .negSucc 0, h => K (.negSucc 0) h
  | .negSucc (m + 1), h => K (.negSucc (m + 1)) h
theorem forceLo_eq {n hi : Int} (lo : Int) (h : lo ≤ n ∧ n ≤ hi) (K : (lo : Int) → lo ≤ n ∧ n ≤ hi → α) : forceLo lo h K = K lo h := by unfold forceLo; split <;> rfl
def forceHi {n lo : Int} (hi : Int) (h : lo ≤ n ∧ n ≤ hi) (K : (hi : Int) → lo ≤ n ∧ n ≤ hi → α) : α := match hi, h with
  | .ofNat 0, h => K (.ofNat 0) h
  | .ofNat (m + 1), h => K (.ofNat (m + 1)) h
  | .negSucc 0, h => K (.negSucc 0) h
  | .negSucc (m + 1), h => K (.negSucc (m + 1)) h
theorem forceHi_eq {n lo : Int} (hi : Int) (h : lo ≤ n ∧ n ≤ hi) (K : (hi : Int) → lo ≤ n ∧ n ≤ hi → α) : forceHi hi h K = K hi h := by unfold forceHi; split <;> rfl
def forceBd {n : Int} (b : Bd n) (K : Bd n → α) : α := match b with
  | .any => K .any
  | .w lo hi h => forceLo lo h fun lo h => forceHi hi h fun hi h => K (.w lo hi h)
theorem forceBd_eq {n : Int} (b : Bd n) (K : Bd n → α) : forceBd b K = K b := by
  cases b
  · rfl
  · simp only [forceBd, forceLo_eq, forceHi_eq]
def forceM (l : Bool) (n : Nat) (K : Nat → α) : α := match l with | true => forceN n K | false => K n
theorem forceM_eq (l : Bool) (n : Nat) (K : Nat → α) : forceM l n K = K n := by cases l <;> simp only [forceM, forceN_eq]
mutual
def forceC (K : SC → α) : SC → α
  | .int true k n b => forceNum n b fun n b => K (.int true k n b)
  | .int false k n b => forceBd b fun b => K (.int false k n b)
  | .boo true b => forceB b fun b => K (.boo true b)
  | .boo false b => K (.boo false b)
  | .ptr n o => forceN n fun n => forceN o fun o => K (.ptr n o)
  | .elp n i k f => forceN n fun n => forceN k fun k => forceN f fun f => K (.elp n i k f)
  | .sli n k lo o ll len cap => forceN n fun n => forceN k fun k => forceB lo fun lo => forceM lo o fun o => forceB ll fun ll => forceM ll len fun len => K (.sli n k lo o ll len cap)
  | .map n => forceN n fun n => K (.map n)
  | .fn f a c => forceL (fun a => forceL (fun c => K (.fn f a c)) c) a
  | .ifc t x => forceC (fun x => K (.ifc t x)) x
  | x => K x
termination_by structural x => x
def forceL (K : List SC → α) : List SC → α
  | [] => K []
  | x :: l => forceC (fun x => forceL (fun l => K (x :: l)) l) x
termination_by structural l => l
end
mutual
theorem forceC_eq : ∀ (x : SC) (K : SC → α), forceC K x = K x
  | .int true k n b, K => by simp only [forceC, forceNum_eq]
  | .int false k n b, K => by simp only [forceC, forceBd_eq]
  | .boo true b, K => by simp only [forceC, forceB_eq]
  | .boo false b, K => by simp only [forceC]
  | .ptr n o, K => by simp only [forceC, forceN_eq]
  | .elp n i k f, K => by simp only [forceC, forceN_eq]
  | .sli n k lo o ll len cap, K => by simp only [forceC, forceN_eq, forceB_eq, forceM_eq]
  | .nls, K => by simp only [forceC]
  | .map n, K => by simp only [forceC, forceN_eq]
  | .fn f a c, K => by simp only [forceC, forceL_eq a, forceL_eq c]
  | .ifc t x, K => by simp only [forceC, forceC_eq x]
  | .sliv _ _ _ _, K => by simp only [forceC]
  | .ptv _, K => by simp only [forceC]
  | .raw _, K => by simp only [forceC]
theorem forceL_eq : ∀ (l : List SC) (K : List SC → α), forceL K l = K l
  | [], K => by simp only [forceL]
  | x :: l, K => by simp only [forceL, forceC_eq x, forceL_eq l]
end
def forceP (K : List (Bool × List SC) → α) : List (Bool × List SC) → α
  | [] => K []
  | (b, c) :: l => forceB b fun b => forceL (fun c => forceP (fun l => K ((b, c) :: l)) l) c
theorem forceP_eq : ∀ (l : List (Bool × List SC)) (K : List (Bool × List SC) → α), forceP K l = K l
  | [], K => by simp only [forceP]
  | (b, c) :: l, K => by simp only [forceP, forceB_eq, forceL_eq, forceP_eq l]
def forceV (K : SV → α) : SV → α
  | .c x => forceC (fun x => K (.c x)) x
  | .agg l => forceL (fun l => K (.agg l)) l
  | .tup l => forceP (fun l => K (.tup l)) l
theorem forceV_eq (x : SV) (K : SV → α) : forceV K x = K x := by cases x <;> simp only [forceV, forceC_eq, forceL_eq, forceP_eq]
def forceT (K : ST → α) : ST → α
  | .nil => K .nil
  | .node v l r => forceV (fun v => forceT (fun l => forceT (fun r => K (.node v l r)) r) l) v
theorem forceT_eq : ∀ (t : ST) (K : ST → α), forceT K t = K t
  | .nil, K => by simp only [forceT]
  | .node v l r, K => by simp only [forceT, forceV_eq, forceT_eq l, forceT_eq r]
def forceF (K : SF → α) (f : SF) : α := match f with
  | ⟨n, t⟩ => forceN n fun n => forceT (fun t => K ⟨n, t⟩) t
theorem forceF_eq (f : SF) (K : SF → α) : forceF K f = K f := by
  cases f
  simp only [forceF, forceN_eq, forceT_eq]
variable {E : EXT}
def forceO (K : SO E → α) : SO E → α
  | .cells l t => forceL (fun l => K (.cells l t)) l
  | .row t k n c l => forceL (fun l => K (.row t k n c l)) l
  | o => K o
theorem forceO_eq (o : SO E) (K : SO E → α) : forceO K o = K o := by cases o <;> simp only [forceO, forceL_eq]
def forceH (K : SH E → α) : SH E → α
  | [] => K []
  | (n, o) :: h => forceN n fun n => forceO (fun o => forceH (fun h => K ((n, o) :: h)) h) o
theorem forceH_eq : ∀ (h : SH E) (K : SH E → α), forceH K h = K h
  | [], K => by simp only [forceH]
  | (n, o) :: h, K => by simp only [forceH, forceN_eq, forceO_eq, forceH_eq h]
end
end Go.Proofs.Ytgiakcepgbpchaa
namespace Go.Proofs.Ytgiakcepgbpchaa
open Go Go.RowKit

inductive Ex where
  | normal
  | exit (id : Nat)
  | ret
abbrev KC (E : EXT) := Ex → SF → Mem E → Scr E → Prop

section
variable {E : EXT} {P : Program}

def plainOf : SH E → SH E
  | [] => []
  | (n, .ext x) :: h => let _ := x; (let _ := n; plainOf h)
  | (n, o) :: h => (n, o) :: plainOf h
theorem plainOf_mem : ∀ {h : SH E} {p : Nat × SO E}, p ∈ plainOf h → p ∈ h
  | [], _, hp => hp
  | (n, o) :: h, p, hp => by
    cases o <;> simp only [plainOf] at hp <;> first
      | exact List.mem_cons_of_mem _ (plainOf_mem hp)
      | (cases hp with
         | head => exact List.mem_cons_self
         | tail _ hm => exact List.mem_cons_of_mem _ (plainOf_mem hm))
theorem get_of_mem : ∀ {h : SH E}, nodupB (List.map (fun p => p.1) h) = true → ∀ p ∈ h, h.get p.1 = some p.2
  | (n, o) :: h, hn, p, hp => by
    simp only [List.map_cons, nodupB, Bool.and_eq_true, Bool.not_eq_true'] at hn
    simp only [SH.get]
    cases hp with
    | head => simp
    | tail _ hm =>
      have hne : ¬ n = p.1 := fun e => by
        have h1 := hn.1
        simp at h1
        exact h1 p.2 (by rw [e]; exact hm)
      rw [if_neg hne]
      exact get_of_mem hn.2 p hm

/-- The blocks into which a region surely stores. -/
def storedOf (f : SF) : List Oper → List Nat
  | [] => []
  | o :: l => match o.op with
    | .store _ a _ => (f.opv a).names ++ storedOf f l
    | _ => storedOf f l
/-- What loads may be read from ahead of their turn. -/
def baseOf (l : List Nat) : SH E → SH E
  | [] => []
  | (n, o) :: h => bif l.contains n then baseOf l h else (n, o) :: baseOf l h
theorem baseOf_mem {l : List Nat} : ∀ {h : SH E} {p : Nat × SO E}, p ∈ baseOf l h → p ∈ h
  | [], _, hp => hp
  | (n, o) :: h, p, hp => by
    simp only [baseOf] at hp
    cases hc : l.contains n <;> rw [hc] at hp
    · simp only [cond_false, List.mem_cons] at hp
      rcases hp with rfl | hp
      · exact List.mem_cons_self
      · exact List.mem_cons_of_mem _ (baseOf_mem hp)
    · exact List.mem_cons_of_mem _ (baseOf_mem hp)
/-- The blocks from which a region may load, as far as it is known ahead. -/
def needOf (f : SF) : List Oper → List Nat
  | [] => []
  | o :: l => match o.op with
    | .load _ a => (f.opv a).names ++ needOf f l
    | .indexAddr _ a _ => (f.opv a).names ++ needOf f l
    | .fieldAddr _ a _ => (f.opv a).names ++ needOf f l
    | .move a => (f.opv a).names ++ needOf f l
    | .assign a => (f.opv a).names ++ needOf f l
    | .slice _ a _ _ _ => (f.opv a).names ++ needOf f l
    | _ => needOf f l
def nextOf (h : SH E) : List Nat → List Nat
  | [] => []
  | n :: l => match h.get n with
    | some o => o.names ++ nextOf h l
    | none => nextOf h l
def onlyOf (l : List Nat) : SH E → SH E
  | [] => []
  | (n, .seen W) :: h => (n, .seen W) :: onlyOf l h
  | (n, o) :: h => bif l.contains n then (n, o) :: onlyOf l h else onlyOf l h
theorem onlyOf_mem {l : List Nat} : ∀ {h : SH E} {p : Nat × SO E}, p ∈ onlyOf l h → p ∈ h
  | [], _, hp => hp
  | (n, o) :: h, p, hp => by
    have key : p ∈ (bif l.contains n then (n, o) :: onlyOf l h else onlyOf l h) ∨ p ∈ (n, o) :: onlyOf l h := by
      cases o <;> simp only [onlyOf] at hp <;> first
        | exact .inr hp
        | exact .inl hp
    rcases key with hp | hp
    · cases hc : l.contains n <;> rw [hc] at hp
      · exact List.mem_cons_of_mem _ (onlyOf_mem hp)
      · simp only [cond_true, List.mem_cons] at hp
        rcases hp with rfl | hp
        · exact List.mem_cons_self
        · exact List.mem_cons_of_mem _ (onlyOf_mem hp)
    · simp only [List.mem_cons] at hp
      rcases hp with rfl | hp
      · exact List.mem_cons_self
      · exact List.mem_cons_of_mem _ (onlyOf_mem hp)
def isLoadOp (o : Oper) : Bool := match o.op with | .load _ _ => true | _ => false
def heldOf (ops : Array Oper) (f : SF) (h : SH E) : SH E := bif ops.toList.any isLoadOp then onlyOf (needOf f ops.toList ++ nextOf h (needOf f ops.toList)) (baseOf (storedOf f ops.toList) (plainOf h)) else []
theorem heldOf_mem {ops : Array Oper} {f : SF} {h : SH E} {p : Nat × SO E} (hp : p ∈ heldOf ops f h) : p ∈ h := by
  unfold heldOf at hp
  cases hc : ops.toList.any isLoadOp <;> rw [hc] at hp
  · cases hp
  · exact plainOf_mem (baseOf_mem (onlyOf_mem hp))
/-- The state behind a region, written out. -/
def endE (top : Nat) (K : KO E) (f : SF) (m : Mem E) (s : Scr E) : Prop := forceF (fun f => forceH (fun hp => forceN (topOf m top) fun nx => K f ⟨hp, nx⟩ s) m.hp) f
theorem endE_eq (top : Nat) (K : KO E) (f : SF) (m : Mem E) (s : Scr E) : endE top K f m s = K f ⟨m.hp, topOf m top⟩ s := by
  unfold endE
  rw [forceF_eq, forceH_eq, forceN_eq]
/-- A state that is handed on, written out. -/
def handE (K : KO E) (f : SF) (m : Mem E) (s : Scr E) : Prop := forceF (fun f => forceH (fun hp => forceN m.nx fun nx => K f ⟨hp, nx⟩ s) m.hp) f
theorem handE_eq (K : KO E) : handE K = K := by
  funext f m s
  unfold handE
  rw [forceF_eq, forceH_eq, forceN_eq]
def regionE (P : Program) (call : CallF E) (wr : Nat → Bool) (ops : Array Oper) (draw : Bool) (f : SF) (m : Mem E) (s : Scr E) (K : KO E) : Prop :=
  bif draw then
    (bif Region.noSelect ops && nodupB (List.map (fun p => p.1) m.hp) && nodupB (List.map (fun p => p.1) (heldOf ops f m.hp)) && (SH.names (heldOf ops f m.hp)).all (fun k => Nat.blt k m.nx) then
      digestK ops fun ds => anyE handE P call wr ops m.nx (m.nx + ops.size) (heldOf ops f m.hp) ds ops.size 0 f m s (endE (m.nx + ops.size) K)
     else Stuck 530)
  else opsE P call wr ops m.nx (m.nx + ops.size) (List.range ops.size) f m s (endE (m.nx + ops.size) K)

/-- Behind a piece of code. -/
def GoodC (K : KC E) (e : Ex) (n : Nat) (ν : Nat → Nat) (R : Assn) (w0 : World) (a : Act) (w : World) : Prop :=
  ∃ f m s μ, K e f m s ∧ Agree n ν μ ∧ n ≤ m.nx ∧ a = actOf μ f ∧ Sat w (m.hp.den μ * R) ∧ Kept w0 w
def QC (K : KC E) (n : Nat) (ν : Nat → Nat) (R : Assn) (w0 : World) (e : Exit) (a : Act) (w : World) : Prop :=
  match e with
  | .normal => GoodC K .normal n ν R w0 a w
  | .exit i => GoodC K (.exit i) n ν R w0 a w
  | .ret => GoodC K .ret n ν R w0 a w
  | _ => False
theorem GoodC.agree {K : KC E} {e : Ex} {n : Nat} {ν μ : Nat → Nat} {R : Assn} {w0 : World} {a : Act} {w : World} (h : GoodC K e n μ R w0 a w) (ha : Agree n ν μ) : GoodC K e n ν R w0 a w := by
  obtain ⟨f, m, s, ξ, k, ag, r⟩ := h
  exact ⟨f, m, s, ξ, k, ha.trans ag (Nat.le_refl _), r⟩
theorem QC.agree {K : KC E} {e : Exit} {n : Nat} {ν μ : Nat → Nat} {R : Assn} {w0 : World} {a : Act} {w : World} (h : QC K n μ R w0 e a w) (ha : Agree n ν μ) : QC K n ν R w0 e a w := by
  cases e <;> first | exact GoodC.agree h ha | exact h.elim

theorem regionE_sound {call : CallF E} (hc : CallOk P call) (hf : NamesOk P) (hm : P.follows .mixedOrders = true) {wr : Nat → Bool} {ops : Array Oper} {id : Nat} {draw : Bool} {f : SF} {m : Mem E} {s : Scr E} {K : KC E}
    (h : regionE P call wr ops draw f m s fun f m s => K .normal f m s) {n : Nat} (hn : n ≤ m.nx) {ν : Nat → Nat} {w w0 : World} {R : Assn} (H : Sat w (m.hp.den ν * R)) (HK : Kept w0 w) :
    (Code.region id ops draw).wp P (QC K n ν R w0) (actOf ν f) w := by
  have conv : ∀ e a w', QR (endE (m.nx + ops.size) fun f m s => K .normal f m s) m.nx ν R w0 e a w' → QC K n ν R w0 e a w' := by
    intro e a w' hq
    cases e <;> first | exact hq.elim | skip
    obtain ⟨f, m', s, μ, k, ag, hnx, ha, hs, hk⟩ := hq
    rw [endE_eq] at k
    exact ⟨f, _, s, μ, k, fun i hi => ag i (Nat.lt_of_lt_of_le hi hn), Nat.le_trans hn (Nat.le_trans hnx (topOf_ge m' _).1), ha, hs, hk⟩
  unfold regionE at h
  cases draw
  · simp only [cond_false] at h
    refine wp_mono (wp_region (opsE_sound hc hf (Nat.le_refl _) _ f m s h (Nat.le_refl _) ν w (Agree.refl _ _) H HK)) conv
  · simp only [cond_true] at h
    cases hb : Region.noSelect ops && nodupB (List.map (fun p => p.1) m.hp) && nodupB (List.map (fun p => p.1) (heldOf ops f m.hp)) && (SH.names (heldOf ops f m.hp)).all (fun k => Nat.blt k m.nx) <;> rw [hb] at h
    · exact h.elim
    simp only [cond_true] at h
    simp only [Bool.and_eq_true] at hb
    rw [digestK_eq] at h
    obtain ⟨⟨⟨h1, h2⟩, h3⟩, h4⟩ := hb
    have H' : Sat { w with drawn := w.drawn + 1 } (m.hp.den ν * R) := H
    have HK' : Kept w0 { w with drawn := w.drawn + 1 } := HK.drew
    have hany := anyE_sound handE_eq hc hf h1 (Nat.le_refl _) h3 h4 _ _ f m s h (fun k _ => hasB_zero k) (Nat.le_refl _) ν _ (Agree.refl _ _) H' HK' fun _ => subEq_sat (fun p hp => get_of_mem h2 p (heldOf_mem hp)) h3 H'
    rw [← listedOf_zero] at hany
    exact wp_mono (wp_region_any hm (wpAny_of_L _ _ _ _ hany)) conv

def writesOf : Code → List Nat
  | .region _ ops _ => ops.toList.filterMap fun o => o.dst
  | .seq a b => writesOf a ++ writesOf b
  | .cond _ a b => writesOf a ++ writesOf b
  | .block _ c => writesOf c
  | .loop c => writesOf c
  | _ => []
def hasRegion (id : Nat) : Code → Bool
  | .region i _ _ => i == id
  | .seq a b => hasRegion id a || hasRegion id b
  | .cond _ a b => hasRegion id a || hasRegion id b
  | .block _ c => hasRegion id c
  | .loop c => hasRegion id c
  | _ => false
def SF.know (f : SF) (x : Operand) (b : Bool) : SF := match x with
  | .tmp t => f.set (some t) (litS b)
  | _ => f
theorem actOf_know {ν : Nat → Nat} {f : SF} {x : Operand} {l b : Bool} (h : f.opv x = .c (.boo l b)) : actOf ν (f.know x b) = actOf ν f := by
  cases x with
  | tmp t => exact actOf_lit h
  | _ => rfl

def unrollE (F : SF → Mem E → Scr E → KC E → Prop) : Nat → SF → Mem E → Scr E → KC E → Prop
  | 0, _, _, _, _ => Stuck 540
  | n + 1, f, m, s, K => F f m s fun e f m s => match e with
    | .normal => unrollE F n f m s K
    | e => K e f m s
/-- What is used up at a head, and what stays. -/
def keepOf (use : List Nat) : SH E → SH E
  | [] => []
  | (n, o) :: h => bif use.contains n then keepOf use h else (n, o) :: keepOf use h
def closeE (N : Nat) (W : Nat → Bool) (f0 : SF) (keep : SH E) (I : List (Nat × SV) × List (Nat × SO E)) (f : SF) (h : SH E) : Prop :=
  bif lowB N W I.1 f0 keep then Close N W f0 keep I f h else Stuck 541
theorem closeE_sound {N : Nat} {W : Nat → Bool} {f0 : SF} {keep : SH E} {I : List (Nat × SV) × List (Nat × SO E)} {f : SF} {h : SH E} (hc : closeE N W f0 keep I f h) : lowB N W I.1 f0 keep = true ∧ Close N W f0 keep I f h := by
  unfold closeE at hc
  cases hb : lowB N W I.1 f0 keep <;> rw [hb] at hc
  · exact hc.elim
  · exact ⟨rfl, hc⟩
def headE (I : List (Nat × SV) × List (Nat × SO E)) (W : Nat → Bool) (f0 : SF) (keep : SH E) (N : Nat) (ρ : Nat → Value) (F : SF → Mem E → Prop) : Prop :=
  bif lowB N W I.1 f0 keep then forceF (fun f => forceH (fun hp => forceN (N + 32) fun nx => F f ⟨hp, nx⟩) (I.2 ++ keep)) (headF W I.1 ρ f0) else Stuck 541
/-- A flag known to be so or so: both ways, with the slot written. -/
def caseE (f : SF) : Scr E → (SF → Scr E → Prop) → Prop
  | .case t x y, F => match f.at t with
    | .c (.boo true b) => bif b then caseE f x F else caseE f y F
    | .c (.boo false b) => (b = true → caseE (f.set (some t) (litS true)) x F) ∧ (b = false → caseE (f.set (some t) (litS false)) y F)
    | _ => Stuck 545
  | s, F => F f s
theorem caseE_sound {ν : Nat → Nat} : ∀ {s : Scr E} {f : SF} {F : SF → Scr E → Prop}, caseE f s F → ∃ f' s', actOf ν f' = actOf ν f ∧ F f' s'
  | .case t x y, f, F, h => by
    simp only [caseE] at h
    split at h
    · rename_i b hb
      cases b
      · exact caseE_sound h
      · exact caseE_sound h
    · rename_i b hb
      cases b
      · obtain ⟨f', s', e, k⟩ := caseE_sound (ν := ν) (h.2 rfl)
        exact ⟨f', s', e.trans (actOf_lit hb), k⟩
      · obtain ⟨f', s', e, k⟩ := caseE_sound (ν := ν) (h.1 rfl)
        exact ⟨f', s', e.trans (actOf_lit hb), k⟩
    · exact h.elim
  | .nil, f, F, h | .stop, f, F, h | .t _, f, F, h | .f _, f, F, h | .both _ _, f, F, h | .inv .., f, F, h | .invs .., f, F, h | .cut .., f, F, h => ⟨f, _, rfl, h⟩
def allE {Y : Type} : List (Emb Y) → (Y → Prop) → Prop
  | [], _ => True
  | p :: l, P => (∀ z, P (p.e z)) ∧ allE l P
/-- One of the shapes: the one that is told. -/
def nthE {Y : Type} : List (Emb Y) → Nat → (Y → Prop) → Prop
  | [], _, _ => Stuck 546
  | p :: _, 0, P => ∃ z, P (p.e z)
  | _ :: l, n + 1, P => nthE l n P
def coverE {Y : Type} (y : Y) : List (Emb Y) → Prop
  | [] => False
  | p :: l => (∃ z, p.e z = y) ∨ coverE y l
theorem allE_of {Y : Type} {P : Y → Prop} : ∀ {l : List (Emb Y)}, allE l P → ∀ {y}, coverE y l → P y
  | [], _, _, h => h.elim
  | p :: l, h, y, hc => by
    rcases hc with ⟨z, rfl⟩ | hc
    · exact h.1 z
    · exact allE_of h.2 hc
theorem nthE_of {Y : Type} {P : Y → Prop} : ∀ {l : List (Emb Y)} {n : Nat}, nthE l n P → ∃ y, P y
  | [], _, h => h.elim
  | p :: l, 0, h => by
    obtain ⟨z, h⟩ := h
    exact ⟨_, h⟩
  | p :: l, n + 1, h => nthE_of (l := l) (n := n) h
def loopE (W : Nat → Bool) (F : SF → Mem E → Scr E → KC E → Prop) (LF : Nat) (f : SF) (m : Mem E) (s : Scr E) (K : KC E) : Prop :=
  match s with
  | .inv dead use Y I mu body =>
    (∃ y, closeE m.nx (fun t => dead t || W t) f (keepOf use m.hp) (I m.nx y) f m.hp) ∧
    ∀ y ρ, headE (I m.nx y) (fun t => dead t || W t) f (keepOf use m.hp) m.nx ρ fun f1 m1 => caseE f1 (body y) fun f1 s1 => F f1 m1 s1 fun e f' m' s' => match e with
      | .normal => ∃ y', mu y' < mu y ∧ closeE m.nx (fun t => dead t || W t) f (keepOf use m.hp) (I m.nx y') f' m'.hp
      | e => K e f' m' s'
  | .invs dead use Y hs sel I mu body =>
    (∀ y, coverE y hs) ∧ nthE hs (sel f m.hp) (fun y => closeE m.nx (fun t => dead t || W t) f (keepOf use m.hp) (I m.nx y) f m.hp) ∧
    allE hs (fun y => ∀ ρ, headE (I m.nx y) (fun t => dead t || W t) f (keepOf use m.hp) m.nx ρ fun f1 m1 => caseE f1 (body y) fun f1 s1 => F f1 m1 s1 fun e f' m' s' => match e with
      | .normal => nthE hs (sel f' m'.hp) fun y' => mu y' < mu y ∧ closeE m.nx (fun t => dead t || W t) f (keepOf use m.hp) (I m.nx y') f' m'.hp
      | e => K e f' m' s')
  | s => unrollE F LF f m s K
def codeE (P : Program) (call : CallF E) (wr : Nat → Bool) (LF : Nat) : Code → SF → Mem E → Scr E → KC E → Prop
  | .skip, f, m, s, K => K .normal f m s
  | .label _, f, m, s, K => K .normal f m s
  | .region _ ops draw, f, m, s, K => regionE P call wr ops draw f m s fun f m s => K .normal f m s
  | .seq a b, f, m, s, K =>
    let plain := codeE P call wr LF a f m s fun e f m s => match e with
      | .normal => codeE P call wr LF b f m s K
      | e => K e f m s
    match s with
    | .cut id dead use Y I first rest => bif hasRegion id a then
        (caseE f first fun f1 s1 => codeE P call wr LF a f1 m s1 fun e f' m' s' => match e with
          | .normal => ∃ y, closeE m.nx (fun t => dead t || (writesOf a).contains t) f (keepOf use m.hp) (I m.nx y) f' m'.hp
          | e => K e f' m' s') ∧
        ∀ y ρ, headE (I m.nx y) (fun t => dead t || (writesOf a).contains t) f (keepOf use m.hp) m.nx ρ fun f1 m1 => caseE f1 (rest y) fun f1 s1 => codeE P call wr LF b f1 m1 s1 K
      else plain
    | .stop => Stuck 544
    | _ => plain
  | .cond x a b, f, m, s, K => match f.opv x with
    | .c (.boo true v) => match v with
      | true => codeE P call wr LF a f m s K
      | false => codeE P call wr LF b f m s K
    | .c (.boo false v) => onTest v s (fun s => codeE P call wr LF a (f.know x true) m s K) (fun s => codeE P call wr LF b (f.know x false) m s K)
    | _ => Stuck 542
  | .block id c, f, m, s, K => codeE P call wr LF c f m s fun e f m s => match e with
    | .exit j => if j = id then K .normal f m s else K (.exit j) f m s
    | e => K e f m s
  | .loop c, f, m, s, K => loopE (fun t => (writesOf c).contains t) (codeE P call wr LF c) LF f m s K
  | .exit id, f, m, s, K => K (.exit id) f m s
  | .ret, f, m, s, K => K .ret f m s
  | _, _, _, _, _ => Stuck 543

theorem rounds_mono {c : Code} {Q : Exit → Act → World → Prop} : ∀ {n k : Nat}, n ≤ k → ∀ {a : Act} {w : World}, Code.rounds P c Q n a w → Code.rounds P c Q k a w
  | 0, _, _, _, _, h => h.elim
  | n + 1, 0, hk, _, _, _ => by omega
  | n + 1, k + 1, hk, a, w, h => by
    rw [rounds_succ] at h ⊢
    refine wp_mono h fun e a w he => ?_
    cases e <;> first | exact he | exact rounds_mono (Nat.le_of_succ_le_succ hk) he

/-- What is shown of a piece of code. -/
def FOk (P : Program) (c : Code) (F : SF → Mem E → Scr E → KC E → Prop) : Prop :=
  ∀ f m s K, F f m s K → ∀ n, n ≤ m.nx → ∀ ν w R w0, Sat w (m.hp.den ν * R) → Kept w0 w → c.wp P (QC K n ν R w0) (actOf ν f) w
theorem unrollE_sound {c : Code} {F : SF → Mem E → Scr E → KC E → Prop} (hF : FOk P c F) : ∀ (k : Nat) (f : SF) (m : Mem E) (s : Scr E) (K : KC E), unrollE F k f m s K → ∀ n, n ≤ m.nx → ∀ (ν0 ν : Nat → Nat) (w : World) (R : Assn) (w0 : World), Agree n ν0 ν → Sat w (m.hp.den ν * R) → Kept w0 w →
    Code.rounds P c (QC K n ν0 R w0) k (actOf ν f) w
  | 0, _, _, _, _, h, _, _, _, _, _, _, _, _, _, _ => h.elim
  | k + 1, f, m, s, K, h, n, hn, ν0, ν, w, R, w0, ag, H, HK => by
    rw [rounds_succ]
    refine wp_mono (hF f m s _ h n hn ν w R w0 H HK) fun e a w' he => ?_
    cases e <;> try exact he.elim
    · obtain ⟨f', m', s', μ, k', ag', hn', rfl, H', HK'⟩ := he
      exact unrollE_sound hF k f' m' s' K k' n hn' ν0 μ w' R w0 (ag.trans ag' (Nat.le_refl _)) H' HK'
    · exact GoodC.agree he ag
    · exact GoodC.agree he ag
theorem headE_sound {I : List (Nat × SV) × List (Nat × SO E)} {W : Nat → Bool} {f0 : SF} {keep : SH E} {N : Nat} {ρ : Nat → Value} {F : SF → Mem E → Prop} (h : headE I W f0 keep N ρ F) : lowB N W I.1 f0 keep = true ∧ F (headF W I.1 ρ f0) ⟨I.2 ++ keep, N + 32⟩ := by
  unfold headE at h
  cases hb : lowB N W I.1 f0 keep <;> rw [hb] at h
  · exact h.elim
  · rw [cond_true, forceF_eq, forceH_eq, forceN_eq] at h
    exact ⟨rfl, h⟩
theorem loop_core {c : Code} {W : Nat → Bool} {F : SF → Mem E → Scr E → KC E → Prop} (hF : FOk P c F) {dead : Nat → Bool} {use : List Nat} {Y : Type} {I : Nat → Y → List (Nat × SV) × List (Nat × SO E)} {mu : Y → Nat} {body : Y → Scr E} {N : Y → SF → Mem E → Prop}
    {f : SF} {m : Mem E} {K : KC E} (hN : ∀ y f' m', N y f' m' → ∃ y', mu y' < mu y ∧ closeE m.nx (fun t => dead t || W t) f (keepOf use m.hp) (I m.nx y') f' m'.hp)
    (hcl : ∃ y, closeE m.nx (fun t => dead t || W t) f (keepOf use m.hp) (I m.nx y) f m.hp)
    (hr : ∀ y ρ, headE (I m.nx y) (fun t => dead t || W t) f (keepOf use m.hp) m.nx ρ fun f1 m1 => caseE f1 (body y) fun f1 s1 => F f1 m1 s1 fun e f' m' s' => match e with
      | .normal => N y f' m'
      | e => K e f' m' s')
    {n : Nat} (hn : n ≤ m.nx) {ν : Nat → Nat} {w : World} {R : Assn} {w0 : World} (H : Sat w (m.hp.den ν * R)) (HK : Kept w0 w) : (Code.loop c).wp P (QC K n ν R w0) (actOf ν f) w := by
  obtain ⟨y, hcl⟩ := hcl
  obtain ⟨hl, hc⟩ := closeE_sound hcl
  have key : ∀ k y ρ μ w', mu y ≤ k → lowB m.nx (fun t => dead t || W t) (I m.nx y).1 f (keepOf use m.hp) = true → Agree m.nx ν μ → Sat w' (SH.den μ ((I m.nx y).2 ++ keepOf use m.hp) * R) → Kept w0 w' →
      Code.rounds P c (QC K n ν R w0) (k + 1) (actOf μ (headF (fun t => dead t || W t) (I m.nx y).1 ρ f)) w' := by
    intro k
    induction k with
    | zero =>
      intro y ρ μ w' hk hl ag H' HK'
      rw [rounds_succ]
      obtain ⟨f1, s1, ef, hf1⟩ := caseE_sound (ν := μ) (headE_sound (hr y ρ)).2
      rw [← ef]
      refine wp_mono (hF _ _ _ _ hf1 m.nx (Nat.le_add_right _ _) μ w' R w0 H' HK') fun e a w2 he => ?_
      cases e <;> try exact he.elim
      · obtain ⟨f', m', s', ξ, hy, _⟩ := he
        obtain ⟨y', hlt, _⟩ := hN _ _ _ hy
        omega
      · obtain ⟨f', m', s', ξ, k', ag', hn', r⟩ := he
        exact ⟨f', m', s', ξ, k', fun i hi => ((ag.trans ag' (Nat.le_refl _)) i (Nat.lt_of_lt_of_le hi hn)), Nat.le_trans hn hn', r⟩
      · obtain ⟨f', m', s', ξ, k', ag', hn', r⟩ := he
        exact ⟨f', m', s', ξ, k', fun i hi => ((ag.trans ag' (Nat.le_refl _)) i (Nat.lt_of_lt_of_le hi hn)), Nat.le_trans hn hn', r⟩
    | succ k ih =>
      intro y ρ μ w' hk hl ag H' HK'
      rw [rounds_succ]
      obtain ⟨f1, s1, ef, hf1⟩ := caseE_sound (ν := μ) (headE_sound (hr y ρ)).2
      rw [← ef]
      refine wp_mono (hF _ _ _ _ hf1 m.nx (Nat.le_add_right _ _) μ w' R w0 H' HK') fun e a w2 he => ?_
      cases e <;> try exact he.elim
      · obtain ⟨f', m', s', ξ, hy, ag', hn', rfl, H2, HK2⟩ := he
        obtain ⟨y', hlt, hcl'⟩ := hN _ _ _ hy
        obtain ⟨hl', hc'⟩ := closeE_sound hcl'
        obtain ⟨ζ, ρ', ag2, hact, H3⟩ := Close_sound hc' hl' H2
        rw [hact]
        exact ih y' ρ' ζ w2 (by omega) hl' ((ag.trans ag' (Nat.le_refl _)).trans ag2 (Nat.le_refl _)) H3 HK2
      · obtain ⟨f', m', s', ξ, k', ag', hn', r⟩ := he
        exact ⟨f', m', s', ξ, k', fun i hi => ((ag.trans ag' (Nat.le_refl _)) i (Nat.lt_of_lt_of_le hi hn)), Nat.le_trans hn hn', r⟩
      · obtain ⟨f', m', s', ξ, k', ag', hn', r⟩ := he
        exact ⟨f', m', s', ξ, k', fun i hi => ((ag.trans ag' (Nat.le_refl _)) i (Nat.lt_of_lt_of_le hi hn)), Nat.le_trans hn hn', r⟩
  obtain ⟨μ, ρ, ag, hact, H1⟩ := Close_sound hc hl H
  rw [hact]
  exact wp_loop_rounds _ (key (mu y) y ρ μ w (Nat.le_refl _) hl ag H1 HK)
theorem loopE_sound {c : Code} {W : Nat → Bool} {F : SF → Mem E → Scr E → KC E → Prop} (hF : FOk P c F) {LF : Nat} : FOk P (.loop c) (loopE W F LF) := by
  intro f m s K h n hn ν w R w0 H HK
  unfold loopE at h
  split at h
  · obtain ⟨hcl, hr⟩ := h
    exact loop_core hF (fun y f' m' h => h) hcl hr hn H HK
  · obtain ⟨hcov, hcl, hr⟩ := h
    exact loop_core hF (fun y f' m' h => nthE_of h) (nthE_of hcl) (fun y ρ => allE_of hr (hcov y) ρ) hn H HK
  · exact wp_loop_rounds LF (unrollE_sound hF LF f m s K h n hn ν ν w R w0 (Agree.refl _ _) H HK)
end
end Go.Proofs.Ytgiakcepgbpchaa
namespace Go.Proofs.Ytgiakcepgbpchaa
open Go Go.RowKit

section
variable {E : EXT} {P : Program}

theorem codeE_sound {call : CallF E} (hc : CallOk P call) (hf : NamesOk P) (hm : P.follows .mixedOrders = true) {wr : Nat → Bool} {LF : Nat} : ∀ c : Code, FOk P c (codeE P call wr LF c)
  | .skip => fun f m s K h n hn ν w R w0 H HK => wp_skip ⟨f, m, s, ν, h, Agree.refl _ _, hn, rfl, H, HK⟩
  | .label _ => fun f m s K h n hn ν w R w0 H HK => wp_label ⟨f, m, s, ν, h, Agree.refl _ _, hn, rfl, H, HK⟩
  | .exit id => fun f m s K h n hn ν w R w0 H HK => wp_exit ⟨f, m, s, ν, h, Agree.refl _ _, hn, rfl, H, HK⟩
  | .ret => fun f m s K h n hn ν w R w0 H HK => wp_ret ⟨f, m, s, ν, h, Agree.refl _ _, hn, rfl, H, HK⟩
  | .region id ops draw => fun f m s K h n hn ν w R w0 H HK => regionE_sound hc hf hm h hn H HK
  | .loop c => loopE_sound (codeE_sound hc hf hm c)
  | .cond x a b => fun f m s K h n hn ν w R w0 H HK => by
    simp only [codeE] at h
    split at h
    · rename_i v hv
      have he : (actOf ν f).eval x = .bool v := by rw [eval_opv, hv]; rfl
      cases v
      · exact wp_cond_false he (codeE_sound hc hf hm b f m s K h n hn ν w R w0 H HK)
      · exact wp_cond_true he (codeE_sound hc hf hm a f m s K h n hn ν w R w0 H HK)
    · rename_i v hv
      have he : (actOf ν f).eval x = .bool v := by rw [eval_opv, hv]; rfl
      rcases onTest_sound h with ⟨hb, s', h2⟩ | ⟨hb, s', h2⟩
      · subst hb
        rw [← actOf_know hv]
        rw [← actOf_know hv] at he
        exact wp_cond_true he (codeE_sound hc hf hm a _ m s' K h2 n hn ν w R w0 H HK)
      · subst hb
        rw [← actOf_know hv]
        rw [← actOf_know hv] at he
        exact wp_cond_false he (codeE_sound hc hf hm b _ m s' K h2 n hn ν w R w0 H HK)
    · exact h.elim
  | .block id c => fun f m s K h n hn ν w R w0 H HK => by
    simp only [codeE] at h
    refine wp_block (wp_mono (codeE_sound hc hf hm c f m s _ h n hn ν w R w0 H HK) fun e a w' he => ?_)
    cases e <;> try exact he.elim
    · exact he
    · rename_i j
      obtain ⟨f', m', s', μ, k, r⟩ := he
      simp only [Exit.inBlock]
      simp only at k
      split at k
      · rename_i hj; rw [if_pos hj]; exact ⟨f', m', s', μ, k, r⟩
      · rename_i hj; rw [if_neg hj]; exact ⟨f', m', s', μ, k, r⟩
    · exact he
  | .seq a b => fun f m s K h n hn ν w R w0 H HK => by
    have plain : ∀ s, (codeE P call wr LF a f m s fun e f m s => match e with
        | .normal => codeE P call wr LF b f m s K
        | e => K e f m s) → (Code.seq a b).wp P (QC K n ν R w0) (actOf ν f) w := by
      intro s h
      refine wp_seq (wp_mono (codeE_sound hc hf hm a f m s _ h n hn ν w R w0 H HK) fun e a' w' he => ?_)
      cases e <;> try exact he.elim
      · obtain ⟨f', m', s', μ, k, ag, hn', rfl, H', HK'⟩ := he
        exact wp_mono (codeE_sound hc hf hm b f' m' s' K k n hn' μ w' R w0 H' HK') fun e a w he => QC.agree he ag
      · exact he
      · exact he
    simp only [codeE] at h
    split at h
    · rename_i id dead use Y I first rest
      cases hr : hasRegion id a <;> rw [hr] at h
      · exact plain _ h
      · clear plain
        simp only [cond_true] at h
        obtain ⟨h1, h2⟩ := h
        obtain ⟨f1, s1, ef, h1⟩ := caseE_sound (ν := ν) h1
        rw [← ef]
        refine wp_seq (wp_mono (codeE_sound hc hf hm a f1 m s1 _ h1 m.nx (Nat.le_refl _) ν w R w0 H HK) fun e a' w' he => ?_)
        cases e <;> try exact he.elim
        · obtain ⟨f', m', s', μ, ⟨y, hcl⟩, ag, hn', rfl, H', HK'⟩ := he
          obtain ⟨hl, hcl⟩ := closeE_sound hcl
          obtain ⟨ξ, ρ, ag2, hact, H2⟩ := Close_sound hcl hl H'
          rw [hact]
          have ag3 : Agree n ν ξ := fun i hi => (ag.trans ag2 (Nat.le_refl _)) i (Nat.lt_of_lt_of_le hi hn)
          obtain ⟨f1, s1, ef, hf1⟩ := caseE_sound (ν := ξ) (headE_sound (h2 y ρ)).2
          rw [← ef]
          exact wp_mono (codeE_sound hc hf hm b _ _ _ K hf1 n (Nat.le_trans hn (Nat.le_add_right _ _)) ξ w' R w0 H2 HK') fun e a w he => QC.agree he ag3
        · obtain ⟨f', m', s', ξ, k', ag', hn', r⟩ := he
          exact ⟨f', m', s', ξ, k', fun i hi => ag' i (Nat.lt_of_lt_of_le hi hn), Nat.le_trans hn hn', r⟩
        · obtain ⟨f', m', s', ξ, k', ag', hn', r⟩ := he
          exact ⟨f', m', s', ξ, k', fun i hi => ag' i (Nat.lt_of_lt_of_le hi hn), Nat.le_trans hn hn', r⟩
    · exact h.elim
    · exact plain _ h
  | .rangeFunc _ _ _ _ => fun _ _ _ _ h => h.elim
  | .scope _ => fun _ _ _ _ h => h.elim
  | .goto _ => fun _ _ _ _ h => h.elim
  | .refuse _ => fun _ _ _ _ h => h.elim

/-- What a function is known to do. -/
structure Smry (P : Program) (E : EXT) where
  g : FuncId
  run : List SV → Mem E → (SV → Mem E → Prop) → Prop
  ok : ∀ args m K, run args m K → ∀ ν w R w0, Sat w (m.hp.den ν * R) → Kept w0 w → Calls P g (args.map (SV.den ν)).toArray w fun e w' =>
    ∃ v m' μ, K v m' ∧ Agree m.nx ν μ ∧ m.nx ≤ m'.nx ∧ e = .returned (v.den μ) ∧ Sat w' (m'.hp.den μ * R) ∧ Kept w0 w'
def sumOf (g : FuncId) : List (Smry P E) → Option (Smry P E)
  | [] => none
  | s :: l => if s.g = g then some s else sumOf g l
theorem sumOf_g {g : FuncId} : ∀ {l : List (Smry P E)} {s : Smry P E}, sumOf g l = some s → s.g = g
  | [], _, h => by simp [sumOf] at h
  | s :: l, t, h => by
    simp only [sumOf] at h
    split at h
    · rename_i e; cases h; exact e
    · exact sumOf_g h

def resV (P : Program) (h : SH E) (f : SF) : List ResultVar → Option (List SV)
  | [] => some []
  | .tmp t :: l => match resV P h f l with
    | some r => some (f.at t :: r)
    | none => none
  | .cell a t :: l => match loadV P h t (f.at a) with
    | .ok v => match f.at a with
      | .c (.ptr _ _) => match resV P h f l with
        | some r => some (v :: r)
        | none => none
      | _ => none
    | _ => none
def partsOf : List SV → Option (List (Bool × List SC))
  | [] => some []
  | .c x :: l => match partsOf l with
    | some r => some ((false, [x]) :: r)
    | none => none
  | .agg c :: l => match partsOf l with
    | some r => some ((true, c) :: r)
    | none => none
  | .tup _ :: _ => none
def packV (l : List SV) : Option SV :=
  match l with
  | [v] => some v
  | l => match partsOf l with
    | some r => some (.tup r)
    | none => none
theorem partsOf_den (ν : Nat → Nat) : ∀ {l : List SV} {r : List (Bool × List SC)}, partsOf l = some r → r.map (partDen ν) = l.map (SV.den ν)
  | [], r, h => by simp only [partsOf, Option.some.injEq] at h; subst h; rfl
  | .c x :: l, r, h => by
    simp only [partsOf] at h
    split at h <;> try cases h
    rename_i r' hr
    simp only [List.map_cons, partsOf_den ν hr]
    rfl
  | .agg c :: l, r, h => by
    simp only [partsOf] at h
    split at h <;> try cases h
    rename_i r' hr
    simp only [List.map_cons, partsOf_den ν hr]
    rfl
  | .tup _ :: _, r, h => by simp [partsOf] at h
theorem resV_run {h : SH E} {f : SF} {ν : Nat → Nat} {w : World} {R : Assn} (H : Sat w (h.den ν * R)) : ∀ {l : List ResultVar} {r : List SV}, resV P h f l = some r →
    (l.mapM fun (x : ResultVar) => match x with
      | .tmp t => (pure ((actOf ν f).tmps.getD t undef) : Sem Value)
      | .cell a t => do loadVar t (← asAddr ((actOf ν f).tmps.getD a undef))).run P w = .ok (r.map (SV.den ν)) w
  | [], r, hr => by simp only [resV, Option.some.injEq] at hr; subst hr; simp
  | .tmp t :: l, r, hr => by
    simp only [resV] at hr
    split at hr <;> try cases hr
    rename_i r' hr'
    have e : (actOf ν f).tmps.getD t undef = (f.at t).den ν := eval_opv ν f (.tmp t)
    have ih := resV_run H hr'
    simp only [List.mapM_cons, Sem.run_bind, Sem.run_pure, Result.andThen_ok, ih, e, List.map_cons]
  | .cell a t :: l, r, hr => by
    simp only [resV] at hr
    split at hr <;> try cases hr
    rename_i v hv
    split at hr <;> try cases hr
    rename_i n o ha
    split at hr <;> try cases hr
    rename_i r' hr'
    have e : (actOf ν f).tmps.getD a undef = (f.at a).den ν := eval_opv ν f (.tmp a)
    have hl := loadV_sound (v := v) (by rw [hv]; rfl) H
    rw [ha] at hl e
    have ih := resV_run H hr'
    have hl' : (loadVar t ⟨ν n, o, none⟩).run P w = .ok (v.den ν) w := by
      simpa [Instr.loadAt, Instr.sureAddr, SV.den, SC.den] using hl
    have he : asAddr ((actOf ν f).tmps.getD a undef) = pure ⟨ν n, o, none⟩ := by rw [e]; rfl
    simp only [List.mapM_cons, Sem.run_bind, he, Sem.run_pure, Result.andThen_ok, hl', ih, List.map_cons]
theorem packV_den (ν : Nat → Nat) {l : List SV} {v : SV} (h : packV l = some v) : (if h : (l.map (SV.den ν)).toArray.size = 1 then (l.map (SV.den ν)).toArray[0] else .tuple (l.map (SV.den ν)).toArray) = v.den ν := by
  unfold packV at h
  split at h
  · simp only [Option.some.injEq] at h
    subst h
    simp
  · rename_i hne
    split at h <;> try cases h
    rename_i r hr
    have hs : ¬ (l.map (SV.den ν)).toArray.size = 1 := by
      simp only [List.size_toArray, List.length_map]
      intro e
      match l, e with
      | [x], _ => exact hne x rfl
    rw [dif_neg hs]
    simp only [SV.den]
    rw [partsOf_den ν hr]
theorem results_run {fn : Func} {h : SH E} {f : SF} {ν : Nat → Nat} {w : World} {R : Assn} (H : Sat w (h.den ν * R)) {r : List SV} (hr : resV P h f fn.results.toList = some r) {v : SV} (hv : packV r = some v) :
    (results fn (actOf ν f).tmps).run P w = .ok (v.den ν) w := by
  have h1 := resV_run H hr
  have h2 := packV_den ν hv
  unfold results
  simp only [Array.mapM_eq_mapM_toList, Sem.run_bind, Sem.run_map, Sem.run_pure]
  have h3 : ∀ g : ResultVar → Sem Value, g = (fun x => match x with
      | .tmp t => (pure ((actOf ν f).tmps.getD t undef) : Sem Value)
      | .cell a t => do loadVar t (← asAddr ((actOf ν f).tmps.getD a undef))) → (fn.results.toList.mapM g).run P w = .ok (r.map (SV.den ν)) w := by rintro _ rfl; exact h1
  rw [h3 _ (by funext x; cases x <;> rfl)]
  simp only [Result.andThen_ok]
  rw [h2]

def callN (P : Program) (T : List (Smry P E)) (wr : FuncId → Nat → Bool) (LF : Nat) : Nat → CallF E
  | 0, _, _, _, _, _ => Stuck 600
  | k + 1, g, args, m, s, K => match sumOf g T with
    | some S => S.run args m fun v m' => K v m' s
    | none => match P.funcs[g]? with
      | some fn => match fn.body with
        | some c => forceF (fun f => codeE P (callN P T wr LF k) (wr g) LF c f m s fun e f m s => match e with
          | .exit _ => Stuck 601
          | _ => match resV P m.hp f fn.results.toList with
            | some r => match packV r with
              | some v => forceV (fun v => K v m s) v
              | none => Stuck 602
            | none => Stuck 603) (SF.tab (args.length + (fn.ntmps - args.length)) fun i => args.getD i SV.und)
        | none => Stuck 604
      | none => Stuck 605
theorem bodyPost_of {fn : Func} {K : KV E} {f : SF} {m : Mem E} {s : Scr E} {n : Nat} {ν μ : Nat → Nat} {w0 w : World} {R : Assn}
    (h : match resV P m.hp f fn.results.toList with
      | some r => match packV r with
        | some v => forceV (fun v => K v m s) v
        | none => Stuck 602
      | none => Stuck 603) (ag : Agree n ν μ) (hn : n ≤ m.nx) (H : Sat w (m.hp.den μ * R)) (HK : Kept w0 w) :
    ∃ v, (results fn (actOf μ f).tmps).run P w = .ok v w ∧ ∃ v0 m' s' ξ, K v0 m' s' ∧ Agree n ν ξ ∧ n ≤ m'.nx ∧ Ending.returned v = .returned (v0.den ξ) ∧ Sat w (m'.hp.den ξ * R) ∧ Kept w0 w := by
  split at h <;> try exact h.elim
  rename_i r hr
  split at h <;> try exact h.elim
  rename_i v hv
  rw [forceV_eq] at h
  exact ⟨_, results_run H hr hv, v, m, s, μ, h, ag, hn, rfl, H, HK⟩
theorem callN_ok (hf : NamesOk P) (hm : P.follows .mixedOrders = true) (T : List (Smry P E)) (wr : FuncId → Nat → Bool) (LF : Nat) : ∀ k, CallOk P (callN P T wr LF k)
  | 0 => fun _ _ _ _ _ h => h.elim
  | k + 1 => fun g args m s K h ν w R w0 H HK => by
    simp only [callN] at h
    split at h
    · rename_i S hS
      have hg := sumOf_g hS
      subst hg
      refine (S.ok args m _ h ν w R w0 H HK).mono ?_
      rintro e w' ⟨v, m', μ, k, r⟩
      exact ⟨v, m', s, μ, k, r⟩
    · split at h <;> try exact h.elim
      rename_i fn hfn
      split at h <;> try exact h.elim
      rename_i c hb
      refine calls_of_wp hfn hb ?_
      have hact : ({ tmps := (args.map (SV.den ν)).toArray ++ Array.replicate (fn.ntmps - (args.map (SV.den ν)).toArray.size) undef, defers := [] } : Act) = actOf ν (SF.tab (args.length + (fn.ntmps - args.length)) fun i => args.getD i SV.und) := by
        unfold actOf
        congr 1
        apply Array.ext_getElem?
        intro i
        have := actOf_tmp ν (SF.tab (args.length + (fn.ntmps - args.length)) fun i => args.getD i SV.und) i
        unfold actOf at this
        rw [this]
        simp only [Array.size_map, List.size_toArray, List.length_map]
        generalize fn.ntmps - args.length = k2
        by_cases hi : i < args.length + k2
        · rw [if_pos (by exact hi), SF.tab_get hi]
          by_cases h1 : i < args.length
          · simp [Array.getElem?_append, h1]
          · simp [Array.getElem?_append, h1, SV.den_und]
            rw [Array.getElem?_replicate, if_pos (by omega)]
        · rw [if_neg (by exact hi)]
          have h1 : ¬ i < args.length := by omega
          simp only [Array.getElem?_append, List.size_toArray, List.length_map, if_neg h1]
          rw [Array.getElem?_replicate, if_neg (by omega)]
      rw [forceF_eq] at h
      rw [hact]
      refine wp_mono (codeE_sound (callN_ok hf hm T wr LF k) hf hm c _ m s _ h m.nx (Nat.le_refl _) ν w R w0 H HK) fun e a w' he => ?_
      cases e <;> try exact he.elim
      · obtain ⟨f, m', s', μ, k', ag, hn, rfl, H', HK'⟩ := he
        exact ⟨rfl, bodyPost_of k' ag hn H' HK'⟩
      · obtain ⟨f, m', s', μ, k', _⟩ := he
        exact k'.elim
      · obtain ⟨f, m', s', μ, k', ag, hn, rfl, H', HK'⟩ := he
        exact ⟨rfl, bodyPost_of k' ag hn H' HK'⟩
end
end Go.Proofs.Ytgiakcepgbpchaa
namespace Go.Proofs.Ytgiakcepgbpchaa
open Go Go.RowKit

section
variable {E : EXT} {P : Program}

/-- What a contract is to give. -/
def Gives (P : Program) (g : FuncId) (args : List SV) (m : Mem E) (K : SV → Mem E → Prop) : Prop := ∀ ν w R w0, Sat w (m.hp.den ν * R) → Kept w0 w → Calls P g (args.map (SV.den ν)).toArray w fun e w' =>
    ∃ v m' μ, K v m' ∧ Agree m.nx ν μ ∧ m.nx ≤ m'.nx ∧ e = .returned (v.den μ) ∧ Sat w' (m'.hp.den μ * R) ∧ Kept w0 w'
/-- A function that hands back a value, and makes memory at most. -/
theorem gives_pure {g : FuncId} {args : List SV} {m : Mem E} {K : SV → Mem E → Prop} {v : SV} (hk : K v m)
    (hc : ∀ ν w, Calls P g (args.map (SV.den ν)).toArray w fun e w' => e = .returned (v.den ν) ∧ Below w.heap.size w w') : Gives P g args m K := fun ν w R w0 H HK =>
  (hc ν w).mono fun _ _ ⟨he, hb⟩ => ⟨v, m, ν, hk, Agree.refl _ _, Nat.le_refl _, he, H.below hb, HK.below hb⟩
theorem gives_same {g : FuncId} {args : List SV} {m : Mem E} {K : SV → Mem E → Prop} {v : SV} (hk : K v m)
    (hc : ∀ ν w, Calls P g (args.map (SV.den ν)).toArray w fun e w' => e = .returned (v.den ν) ∧ w = w') : Gives P g args m K :=
  gives_pure hk fun ν w => (hc ν w).mono fun _ _ ⟨he, hb⟩ => ⟨he, hb ▸ Below.refl _ _⟩
theorem gives_draws {g : FuncId} {args : List SV} {m : Mem E} {K : SV → Mem E → Prop} {v : SV} (hk : K v m)
    (hc : ∀ ν w, Calls P g (args.map (SV.den ν)).toArray w fun e w' => e = .returned (v.den ν) ∧ ∃ n, w' = w.drewN n) : Gives P g args m K := fun ν w R w0 H HK =>
  (hc ν w).mono fun _ _ ⟨he, n, hb⟩ => ⟨v, m, ν, hk, Agree.refl _ _, Nat.le_refl _, he, by subst hb; exact H.draws n, by subst hb; exact HK.draws n⟩
def newOk (m : Mem E) (o : SO E) : Bool := !(m.hp.names.contains m.nx) && !(o.names.contains m.nx)
/-- A new block under the next name. -/
def withNew (m : Mem E) (o : SO E) : Mem E := ⟨m.hp.put m.nx o, m.nx + 1⟩
theorem withNew_sat {m : Mem E} {o : SO E} (h : newOk m o = true) {ν : Nat → Nat} {w : World} {R : Assn} {b : Nat} (H : Sat w (o.den ν b * (m.hp.den ν * R))) : Sat w ((withNew m o).hp.den (upd ν m.nx b) * R) := by
  simp only [newOk, Bool.and_eq_true, Bool.not_eq_true'] at h
  simp only [withNew]
  rw [SH.den_put, upd_same, Assn.mul_assoc, SO.den_eq o fun k hk => not_mem_upd h.2 k hk, SH.den_eq m.hp fun k hk => not_mem_upd h.1 k hk]
  exact H
/-- A function that hands back a row of integers in new memory. -/
def rowRun (m : Mem E) (T : TypeId) (k : IntKind) (n : Nat) (f : Nat → Int) (K : SV → Mem E → Prop) : Prop :=
  0 < n ∧ ∀ cap, n ≤ cap → (bif newOk m (.ints T k n cap f) then K (.c (.sli m.nx 1 true 0 false n cap)) (withNew m (.ints T k n cap f)) else Stuck 620)
theorem gives_row {g : FuncId} {args : List SV} {m : Mem E} {K : SV → Mem E → Prop} {T : TypeId} {k : IntKind} {n : Nat} {f : Nat → Int} (hk : rowRun m T k n f K)
    (hc : ∀ ν w, Calls P g (args.map (SV.den ν)).toArray w fun e w' => ∃ v, e = .returned v ∧ w'.ownsRow w.heap.size T 1 v n (intsOf k n f) ∧ Below w.heap.size w w') : Gives P g args m K := fun ν w R w0 H HK =>
  (hc ν w).mono fun _ w' ⟨v, he, ho, hb⟩ => by
    obtain ⟨hpos, hk⟩ := hk
    have h1 := rowAt_made H hb ho
    rw [rowAt_rowK] at h1
    have hlen : (intsOf k n f).length = n := by simp [intsOf]
    rw [hlen] at h1
    have hne : v ≠ .slice none 0 0 := by
      rintro rfl
      obtain ⟨_, ⟨_, h, _⟩ | ⟨_, _, _, h, _⟩⟩ := rowK_open h1
      · omega
      · cases h
    obtain ⟨b, cap, rfl, hcap, h2⟩ := rowK_head h1 hne
    have h3 := hk cap hcap
    cases hn : newOk m (.ints T k n cap f) <;> rw [hn] at h3
    · exact h3.elim
    simp only [cond_true] at h3
    refine ⟨_, _, upd ν m.nx b, h3, Agree.upd (Nat.le_refl _) _, Nat.le_succ _, ?_, withNew_sat hn h2, HK.below hb⟩
    rw [he]
    simp [SV.den, SC.den, upd_same]
/-- The way in: what the executor shows, as a contract. -/
theorem calls_of (hf : NamesOk P) (hm : P.follows .mixedOrders = true) {T : List (Smry P E)} {wr : FuncId → Nat → Bool} {LF k : Nat} {g : FuncId} {args : List SV} {m : Mem E} {s : Scr E} {K : SV → Mem E → Prop} (h : callN P T wr LF k g args m s fun v m _ => K v m) : Gives P g args m K := fun ν w R w0 H HK =>
  (callN_ok hf hm T wr LF k g args m s _ h ν w R w0 H HK).mono fun _ _ ⟨v, m', _, μ, r⟩ => ⟨v, m', μ, r⟩
def numI (l : Bool) (n : Int) (b : Bd n := .any) : Bool × List SC := (false, [.int l .i64 n b])
/-- A condition, where bounds don't show it already. -/
def needIf (b : Bool) (p q : Prop) : Prop := match b with | true => q | false => p ∧ q
theorem needIf_elim {b : Bool} {p q : Prop} (hb : b = true → p) (h : needIf b p q) : p ∧ q := by cases b; exact h; exact ⟨hb rfl, h⟩
/-- Do bounds show that it is so much at least, so much at most? -/
def Bd.in {n : Int} (b : Bd n) (lo hi : Int) : Bool := match b with
  | .w l h _ => leI lo l && leI h hi
  | .any => false
theorem Bd.in_sound {n : Int} {b : Bd n} {lo hi : Int} (h : b.in lo hi = true) : lo ≤ n ∧ n ≤ hi := by
  unfold Bd.in at h
  split at h
  · simp only [Bool.and_eq_true] at h
    have h1 := leI_le h.1
    have h2 := leI_le h.2
    omega
  · cases h
/-- Bounds of a number, or of nothing in its stead. -/
theorem orZero_bd {n lo hi : Int} (c : Bool) (h : lo ≤ n ∧ n ≤ hi) : minI lo 0 ≤ (if c = true then n else 0) ∧ (if c = true then n else 0) ≤ maxI hi 0 := by
  rw [minI_eq, maxI_eq]; split <;> omega
def Bd.orZero (c : Bool) {n : Int} (b : Bd n) : Bd (if c = true then n else 0) := match b with
  | .w _ _ h => .w _ _ (orZero_bd c h)
  | .any => .any
def okB (b : Bool) : Bool × List SC := (false, [.boo true b])
end
end Go.Proofs.Ytgiakcepgbpchaa
