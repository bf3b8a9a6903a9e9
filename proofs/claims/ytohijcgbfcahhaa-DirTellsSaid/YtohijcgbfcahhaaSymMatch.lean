/- The executor: two states against one another, names apart. -/
import Derived.Test.YtohijcgbfcahhaaSymAny
namespace Go.Proofs.Ytohijcgbfcahhaa
open Go Go.RowKit

mutual
def SC.ren (τ : Nat → Nat) : SC → SC
  | .ptr n o => .ptr (τ n) o
  | .elp n i k f => .elp (τ n) i k f
  | .sli n k lo o ll len cap => .sli (τ n) k lo o ll len cap
  | .map n => .map (τ n)
  | .fn f a c => .fn f (SC.renL τ a) (SC.renL τ c)
  | .ifc t x => .ifc t (x.ren τ)
  | x => x
termination_by structural x => x
def SC.renL (τ : Nat → Nat) : List SC → List SC
  | [] => []
  | x :: l => x.ren τ :: SC.renL τ l
termination_by structural l => l
end
mutual
theorem SC.den_ren (τ ν : Nat → Nat) : ∀ x : SC, (x.ren τ).den ν = x.den (ν ∘ τ)
  | .int _ _ _ _ => by simp [SC.ren, SC.den]
  | .boo _ _ => by simp [SC.ren, SC.den]
  | .ptr n _ => by simp [SC.ren, SC.den]
  | .elp n _ _ _ => by simp [SC.ren, SC.den]
  | .sli n _ _ _ _ _ _ => by simp [SC.ren, SC.den]
  | .nls => by simp [SC.ren, SC.den]
  | .map n => by simp [SC.ren, SC.den]
  | .fn f a c => by simp only [SC.ren, SC.den]; rw [SC.denL_ren τ ν a, SC.denL_ren τ ν c]
  | .ifc t x => by simp only [SC.ren, SC.den]; rw [SC.den_ren τ ν x]
  | .sliv _ _ _ _ => by simp [SC.ren, SC.den]
  | .ptv _ => by simp [SC.ren, SC.den]
  | .raw _ => by simp [SC.ren, SC.den]
theorem SC.denL_ren (τ ν : Nat → Nat) : ∀ l : List SC, SC.denL ν (SC.renL τ l) = SC.denL (ν ∘ τ) l
  | [] => by simp [SC.renL, SC.denL]
  | x :: l => by simp only [SC.renL, SC.denL]; rw [SC.den_ren τ ν x, SC.denL_ren τ ν l]
end
def SV.ren (τ : Nat → Nat) : SV → SV
  | .c x => .c (x.ren τ)
  | .agg l => .agg (SC.renL τ l)
  | .tup l => .tup (l.map fun p => (p.1, SC.renL τ p.2))
theorem partDen_ren (τ ν : Nat → Nat) (p : Bool × List SC) : partDen ν (p.1, SC.renL τ p.2) = partDen (ν ∘ τ) p := by
  obtain ⟨b, l⟩ := p
  cases b with
  | true => simp only [partDen]; rw [SC.denL_ren]
  | false =>
    match l with
    | [] => rfl
    | [x] => simp only [SC.renL, partDen]; exact SC.den_ren τ ν x
    | _ :: _ :: _ => rfl
theorem SV.den_ren (τ ν : Nat → Nat) (x : SV) : (x.ren τ).den ν = x.den (ν ∘ τ) := by
  cases x with
  | c x => exact SC.den_ren τ ν x
  | agg l => simp only [SV.ren, SV.den]; rw [SC.denL_ren]
  | tup l =>
    simp only [SV.ren, SV.den, List.map_map]
    congr 2
    apply List.map_congr_left
    intro p _
    exact partDen_ren τ ν p
section
variable {E : EXT} {P : Program}
def SO.ren (τ : Nat → Nat) : SO E → SO E
  | .cells l t => .cells (SC.renL τ l) t
  | .row t k n c l => .row t k n c (SC.renL τ l)
  | .ext x => .ext (E.ren τ x)
  | o => o
theorem SO.den_ren (τ ν : Nat → Nat) (b : Nat) (o : SO E) : (o.ren τ).den ν b = o.den (ν ∘ τ) b := by
  cases o with
  | cells l t => simp only [SO.ren, SO.den]; rw [SC.denL_ren]
  | row t k n c l => simp only [SO.ren, SO.den]; rw [SC.denL_ren]
  | ext x => exact E.rlaw τ ν b x
  | _ => rfl

mutual
def eqC : SC → SC → Prop
  | .int _ k a _, .int _ k' b _ => if k = k' then a = b else Stuck 500
  | .boo _ a, .boo _ b => a = b
  | .ptr n o, .ptr n' o' => if n = n' then o = o' else Stuck 501
  | .elp n i k f, .elp n' i' k' f' => if n = n' then (i = i' ∧ k = k' ∧ f = f') else Stuck 502
  | .sli n k _ o _ len cap, .sli n' k' _ o' _ len' cap' => if n = n' then (if k = k' then (o = o' ∧ len = len' ∧ cap = cap') else Stuck 503) else Stuck 504
  | .nls, .nls => True
  | .map n, .map n' => if n = n' then True else Stuck 505
  | .fn f a c, .fn f' a' c' => if f = f' then (eqCL a a' ∧ eqCL c c') else Stuck 506
  | .ifc t x, .ifc t' x' => if t = t' then eqC x x' else Stuck 507
  | .sliv a _ n c, .sliv a' _ n' c' => a = a' ∧ n = n' ∧ c = c'
  | .ptv a, .ptv a' => a = a'
  | .raw v, .raw v' => v = v'
  | _, _ => Stuck 508
termination_by structural x => x
def eqCL : List SC → List SC → Prop
  | [], [] => True
  | x :: l, y :: m => eqC x y ∧ eqCL l m
  | _, _ => Stuck 509
termination_by structural l => l
end
mutual
theorem eqC_den (ν : Nat → Nat) : ∀ {x y : SC}, eqC x y → x.den ν = y.den ν
  | .int _ k a _, y, h => by
    cases y <;> simp only [eqC] at h <;> try exact h.elim
    split at h
    · simp [SC.den, *]
    · exact h.elim
  | .boo _ a, y, h => by cases y <;> simp only [eqC] at h <;> first | exact h.elim | simp [SC.den, h]
  | .ptr n o, y, h => by
    cases y <;> simp only [eqC] at h <;> try exact h.elim
    split at h
    · simp [SC.den, *]
    · exact h.elim
  | .elp n i k f, y, h => by
    cases y <;> simp only [eqC] at h <;> try exact h.elim
    split at h
    · simp [SC.den, *]
    · exact h.elim
  | .sli n k _ o _ len cap, y, h => by
    cases y <;> simp only [eqC] at h <;> try exact h.elim
    split at h
    · split at h
      · simp [SC.den, *]
      · exact h.elim
    · exact h.elim
  | .nls, y, h => by cases y <;> simp only [eqC] at h <;> first | exact h.elim | rfl
  | .map n, y, h => by
    cases y <;> simp only [eqC] at h <;> try exact h.elim
    split at h
    · simp [SC.den, *]
    · exact h.elim
  | .fn f a c, y, h => by
    cases y <;> simp only [eqC] at h <;> try exact h.elim
    split at h
    · rename_i hf
      simp only [SC.den, hf]
      rw [eqCL_den ν h.1, eqCL_den ν h.2]
    · exact h.elim
  | .ifc t x, y, h => by
    cases y <;> simp only [eqC] at h <;> try exact h.elim
    split at h
    · rename_i ht
      simp only [SC.den, ht]
      rw [eqC_den ν h]
    · exact h.elim
  | .sliv a _ n c, y, h => by cases y <;> simp only [eqC] at h <;> first | exact h.elim | simp [SC.den, h]
  | .ptv a, y, h => by cases y <;> simp only [eqC] at h <;> first | exact h.elim | simp [SC.den, h]
  | .raw v, y, h => by cases y <;> simp only [eqC] at h <;> first | exact h.elim | simp [SC.den, h]
theorem eqCL_den (ν : Nat → Nat) : ∀ {l m : List SC}, eqCL l m → SC.denL ν l = SC.denL ν m
  | [], [], _ => rfl
  | x :: l, y :: m, h => by
    simp only [eqCL] at h
    simp only [SC.denL]
    rw [eqC_den ν h.1, eqCL_den ν h.2]
  | [], _ :: _, h => by simp only [eqCL] at h; exact h.elim
  | _ :: _, [], h => by simp only [eqCL] at h; exact h.elim
end
def eqV : SV → SV → Prop
  | .c x, .c y => eqC x y
  | .agg l, .agg m => eqCL l m
  | .tup [], .tup [] => True
  | _, _ => Stuck 510
theorem eqV_den (ν : Nat → Nat) {x y : SV} (h : eqV x y) : x.den ν = y.den ν := by
  unfold eqV at h
  split at h
  · exact eqC_den ν h
  · simp only [SV.den]; rw [eqCL_den ν h]
  · rfl
  · exact h.elim
def intsL (k : IntKind) (f : Nat → Int) : Nat → List SC → Prop
  | _, [] => True
  | i, x :: l => (match x with | .int _ k' a _ => if k = k' then f i = a else Stuck 507 | _ => Stuck 507) ∧ intsL k f (i + 1) l
theorem intsL_den (ν : Nat → Nat) {k : IntKind} {f : Nat → Int} : ∀ {l : List SC} {i : Nat}, intsL k f i l → SC.denL ν l = (List.range l.length).map fun j => .int k (f (i + j))
  | [], _, _ => rfl
  | x :: l, i, h => by
    simp only [intsL] at h
    obtain ⟨h1, h2⟩ := h
    split at h1
    · split at h1
      · rename_i hk
        subst hk
        rw [SC.denL, intsL_den ν h2]
        simp only [SC.den, List.length_cons, List.range_succ_eq_map, List.map_cons, List.map_map, Nat.add_zero, h1]
        congr 1
        apply List.map_congr_left
        intro j _
        simp [Nat.add_assoc, Nat.add_comm 1 j]
      · exact h1.elim
    · exact h1.elim
def eqO : SO E → SO E → Prop
  | .cells l t, .cells l' t' => if t = t' then eqCL l l' else Stuck 511
  | .row t k n c l, .row t' k' n' c' l' => if t = t' then (if k = k' then (n = n' ∧ c = c' ∧ eqCL l l') else Stuck 512) else Stuck 513
  | .ints t k n c f, .ints t' k' n' c' f' => if t = t' then (if k = k' then (n = n' ∧ c = c' ∧ ∀ i, i < n → f i = f' i) else Stuck 514) else Stuck 515
  | .vals t k n c f, .vals t' k' n' c' f' => if t = t' then (if k = k' then (n = n' ∧ c = c' ∧ ∀ i, i < n → f i = f' i) else Stuck 516) else Stuck 517
  | .ints t k n c f, .cells l t' => if t = t' then (n = l.length ∧ c = l.length ∧ l.length ≤ 1000000000 ∧ intsL k f 0 l) else Stuck 519
  | .ints t k n c f, .row t' k' n' c' l => if t = t' then (if k' = 1 then (n = l.length ∧ c = c' ∧ intsL k f 0 l) else Stuck 519) else Stuck 519
  | .mp l, .mp l' => l = l'
  | .ext x, .ext y => x = y
  | _, _ => Stuck 518
theorem intsOf_congr {k : IntKind} {n : Nat} {f g : Nat → Int} (h : ∀ i, i < n → f i = g i) : intsOf k n f = intsOf k n g := by
  unfold intsOf
  apply List.map_congr_left
  intro i hi
  rw [h i (List.mem_range.1 hi)]
theorem valsOf_congr {n : Nat} {f g : Nat → List Value} (h : ∀ i, i < n → f i = g i) : valsOf n f = valsOf n g := by
  unfold valsOf
  rw [List.flatMap_def, List.flatMap_def]
  congr 1
  apply List.map_congr_left
  intro i hi
  exact h i (List.mem_range.1 hi)
theorem eqO_den (ν : Nat → Nat) (b : Nat) {x y : SO E} (h : eqO x y) {w : World} {Q : Assn} (H : Sat w (y.den ν b * Q)) : Sat w (x.den ν b * Q) := by
  unfold eqO at h
  split at h
  · split at h
    · rename_i ht; subst ht; simp only [SO.den] at H ⊢; rw [eqCL_den ν h]; exact H
    · exact h.elim
  · split at h
    · split at h
      · rename_i ht hk
        subst ht hk
        obtain ⟨rfl, rfl, h⟩ := h
        simp only [SO.den] at H ⊢; rw [eqCL_den ν h]; exact H
      · exact h.elim
    · exact h.elim
  · split at h
    · split at h
      · rename_i ht hk
        subst ht hk
        obtain ⟨rfl, rfl, h⟩ := h
        simp only [SO.den] at H ⊢; rw [intsOf_congr h]; exact H
      · exact h.elim
    · exact h.elim
  · split at h
    · split at h
      · rename_i ht hk
        subst ht hk
        obtain ⟨rfl, rfl, h⟩ := h
        simp only [SO.den] at H ⊢
        rw [valsOf_congr h]
        rw [Assn.mul_assoc] at H ⊢
        obtain ⟨hl, H⟩ := H.pure_mul
        exact Sat.mk_pure_mul (fun i hi => by rw [h i hi]; exact hl i hi) H
      · exact h.elim
    · exact h.elim
  · split at h
    · rename_i t k n c f l t' ht
      subst ht
      obtain ⟨rfl, rfl, h9, h⟩ := h
      simp only [SO.den] at H ⊢
      have e := intsL_den ν h
      simp only [Nat.zero_add] at e
      refine Sat.mk_ex_mul (SC.denL ν l).toArray ?_
      rw [Assn.mul_assoc]
      refine Sat.mk_pure_mul ⟨by simp [intsOf], Nat.le_refl _, by unfold maxLen; omega, by rw [e]; simp, ?_⟩ H
      rw [e]
      simp only [intsOf]
      rw [List.take_of_length_le (by simp)]
    · exact h.elim
  · split at h
    · split at h
      · rename_i t k n c f t' k' n' c' l ht hk
        subst ht hk
        obtain ⟨rfl, rfl, h⟩ := h
        simp only [SO.den] at H ⊢
        have e := intsL_den ν h
        simp only [Nat.zero_add] at e
        obtain ⟨cur, H1⟩ := H.ex_mul
        rw [Assn.mul_assoc] at H1
        obtain ⟨⟨h0, h1, h2, h3, h4⟩, H2⟩ := H1.pure_mul
        clear H H1
        have hn : n' = l.length := by rw [denL_map, List.length_map] at h0; omega
        subst hn
        refine Sat.mk_ex_mul cur ?_
        rw [Assn.mul_assoc]
        refine Sat.mk_pure_mul ⟨by simp [intsOf], h1, h2, h3, ?_⟩ H2
        rw [h4, e]
        rfl
      · exact h.elim
    · exact h.elim
  · subst h; exact H
  · subst h; exact H
  · exact h.elim
end
end Go.Proofs.Ytohijcgbfcahhaa
