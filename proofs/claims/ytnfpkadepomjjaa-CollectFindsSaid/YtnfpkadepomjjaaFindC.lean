/- CollectFinds: the states of its loops, and how they go on. No program in sight. -/
import Derived.Test.YtnfpkadepomjjaaFindL
import Derived.Test.YtnfpkadepomjjaaFnd13
set_option linter.all false
namespace Go.Proofs.Ytnfpkadepomjjaa
open Go Go.RowKit

structure C1 (W : World) (a : Option Addr) (len plen : Nat) where
  k : Nat
  cap : Nat
  A0 : Ar
  A : Ar
  c : Nat → Option Cnt
  x : Col
  f : Nat → Bool
  alw : Nat → Bool
  som : Nat → Bool
  r0 : Nat
  hk : k ≤ plen
  hc : 4 ≤ cap
  h0 : SegOk 4 A0
  hi : FindI A0 (slF W a) len c A x alw som r0
  hf : ∀ j, j < len → f j = isInC (c j)
  hr : A.t.reads ≤ k
structure C2 {W : World} {a : Option Addr} {len plen : Nat} (y : C1 W a len plen) where
  j : Nat
  alw : Nat → Bool
  som : Nat → Bool
  hj : j ≤ len
  ha : ∀ q, q < j → alw q = (isInC (y.c q) && doneC (y.c q))
  hs : ∀ q, q < j → som q = (isInC (y.c q) || !doneC (y.c q))
structure C0 where
  cap : Nat
  A : Ar
  hc : 4 ≤ cap
  h0 : SegOk 4 A
theorem isInC_stepF (st : Cnt) : isInC (some (stepC st)) = isInC (some st) := by
  unfold stepC
  split <;> rfl
theorem stepA_reads (st : Cnt) (A : Ar) : (stepA st A).t.reads = A.t.reads := by
  unfold stepA
  split
  · unfold Ar.add Ar.tick Ar.set
    split <;> rfl
  · rfl
theorem wr64_lo {n : Nat} (h : n ≤ 1000000) : wr64 n = (n : Int) := wr64_small (by omega)
theorem hasD_of (pl : List (Nat × Nat)) (p : Nat × Nat) : ∀ n, (∃ j, j < n ∧ pl.getD j (0, 0) = p) → hasD pl p n = true
  | 0, ⟨_, h, _⟩ => absurd h (Nat.not_lt_zero _)
  | n + 1, ⟨j, h, e⟩ => by
    rw [hasD_succ, Bool.or_eq_true]
    by_cases ej : j = n
    · right; subst ej; exact beq_iff_eq.2 e
    · left; exact hasD_of pl p n ⟨j, by omega, e⟩
theorem wasD_of (W : World) (a : Option Addr) (som : Nat → Bool) (p : Nat × Nat) : ∀ n, (∃ j, j < n ∧ som j = true ∧ p = plD W a j) → wasD W a som p n = true
  | 0, ⟨_, h, _⟩ => absurd h (Nat.not_lt_zero _)
  | n + 1, ⟨j, h, e1, e2⟩ => by
    rw [wasD_succ, Bool.or_eq_true]
    by_cases ej : j = n
    · right; subst ej; rw [e1, Bool.true_and]; exact beq_iff_eq.2 e2
    · left; exact wasD_of W a som p n ⟨j, by omega, e1, e2⟩
theorem cntS_pos (som : Nat → Bool) : ∀ n, (∃ j, j < n ∧ som j = true) → 1 ≤ cntS som n
  | 0, ⟨_, h, _⟩ => absurd h (Nat.not_lt_zero _)
  | n + 1, ⟨j, h, e⟩ => by
    rw [cntS_succ]
    by_cases ej : j = n
    · subst ej; rw [if_pos e]; omega
    · have := cntS_pos som n ⟨j, by omega, e⟩; omega
theorem getD_at {l : List (Nat × Nat)} {i : Nat} (h : i < l.length) : l.getD i (0, 0) = l[i] := by
  rw [List.getD_eq_getElem?_getD, List.getElem?_eq_getElem h]; rfl
section
variable {W : World} {a : Option Addr} {len plen : Nat}
theorem C0.go (z : C0) : ∃ y : C1 W a len plen, (y.k : Int) = 0 ∧ y.cap = z.cap ∧ (y.r0 : Int) = wr64 z.A.t.reads ∧ y.A = z.A ∧ (y.x = ⟨0, 0, 0, fun _ => 0, []⟩) ∧ (y.c = fun _ => none) ∧ (∀ j, j < len → y.f j = false) ∧ (∀ j, j < len → y.alw j = false) ∧ (∀ j, j < len → y.som j = false) := by
  have ht : z.A.t.reads = 0 := by rw [z.h0.tally]
  have hn := FindI.new (alw := fun _ => false) (som := fun _ => false) (CtInv.zero z.h0 (slF W a) len) (fun _ _ h => (by cases h)) (fun _ _ _ => ⟨rfl, rfl⟩)
  rw [ht] at hn
  refine ⟨⟨0, z.cap, z.A, z.A, fun _ => none, ⟨0, 0, 0, fun _ => 0, []⟩, fun _ => false, fun _ => false, fun _ => false, 0, Nat.zero_le _, z.hc, z.h0, hn, fun _ _ => rfl, by omega⟩, rfl, rfl, ?_, rfl, rfl, rfl, fun _ _ => rfl, fun _ _ => rfl, fun _ _ => rfl⟩
  exact (congrArg wr64 ht).symm ▸ rfl
theorem C1.reads (y : C1 W a len plen) (h400 : plen ≤ 400) : wr64 y.A.t.reads = (y.A.t.reads : Int) := wr64_lo (by have := y.hr; have := y.hk; omega)
theorem C1.found (y : C1 W a len plen) (h12 : len ≤ 12) (h400 : plen ≤ 400) (hs : 0 < len → a.isSome = true) (hx : ∀ j, j < len → Seen .u8 W (addOpt a j)) (hd : colDone y.x = true) :
    ((-9223372036854775808 : Int) ≤ wr64 y.A.t.reads - (y.r0 : Int) ∧ wr64 y.A.t.reads - (y.r0 : Int) ≤ 9223372036854775807) ∧ wr64 y.A.t.reads - (y.r0 : Int) = ((y.A.t.reads - y.r0 : Nat) : Int) ∧ FoundOk W a len y.x y.alw y.som (y.A.t.reads - y.r0) := by
  have e := y.reads h400
  obtain ⟨r1, r2⟩ := y.hi.reads
  have hr := y.hr
  have hk := y.hk
  have ph : y.x.ph = 2 := Nat.eq_of_beq_eq_true hd
  obtain ⟨f1, f2⟩ := y.hi.few ph
  refine ⟨by omega, by omega, h12, ph, y.hi.len, hs, hx, fun i hi ha => ?_, fun i hi => ?_, fun i h0 hi => ?_, ?_⟩
  · obtain ⟨j, hj, he⟩ := List.getElem_of_mem (y.hi.all (slF_le W a) ph hi ha)
    exact hasD_of _ _ _ ⟨j, hj, by rw [getD_at hj, he]; rfl⟩
  · rw [getD_at hi]
    obtain ⟨p1, p2, j, hj, hs1, hs2⟩ := y.hi.pls _ (List.getElem_mem hi)
    refine wasD_of _ _ _ _ _ ⟨j, hj, hs1, ?_⟩
    unfold plD
    rw [hs2]
    exact Prod.ext p2 rfl
  · rw [getD_at hi, getD_at (show i - 1 < y.x.pl.length by omega)]
    exact List.pairwise_iff_getElem.1 y.hi.sorted (i - 1) i (by omega) hi (by omega)
  · by_cases hn : ∀ j, j < len → y.som j = false
    · have := f2 hn; omega
    · have : ∃ j, j < len ∧ y.som j = true := by
        refine Classical.byContradiction fun h => hn fun j hj => ?_
        cases hs : y.som j with
        | false => rfl
        | true => exact absurd ⟨j, hj, hs⟩ h
      have := cntS_pos y.som len this
      omega
theorem C1.step (y : C1 W a len plen) (h12 : len ≤ 12) (hk : y.k < plen) {i : Nat} (hi : i < len) {st : Cnt} (hc : y.c i = some st) : CntOk st y.A ∧ ∃ y' : C1 W a len plen, plen - y'.k < plen - y.k ∧ (y'.k : Int) = (y.k : Int) + 1 ∧ y'.cap = y.cap ∧ (y'.r0 : Int) = (y.r0 : Int) ∧ y'.A = stepA st y.A ∧ y'.x = y.x ∧
    (y'.c = fun j => if j = i then some (stepC st) else y.c j) ∧ (∀ j, j < len → y'.f j = y.f j) ∧ (∀ j, j < len → y'.alw j = if j = i then false else y.alw j) ∧ (∀ j, j < len → y'.som j = if j = i then true else y.som j) := by
  have hr := y.hr
  refine ⟨y.hi.ct.okS y.h0 (slF_le W a) hi hc, ⟨y.k + 1, y.cap, y.A0, stepA st y.A, putC y.c i (some (stepC st)), y.x, y.f, fun j => if j = i then false else y.alw j, fun j => if j = i then true else y.som j, y.r0, hk, y.hc, y.h0, y.hi.other (y.hi.ct.step y.h0 (slF_le W a) (by omega) hi hc) (fun j hj => if_neg hj) (stepA_reads st y.A), fun j hj => ?_, by rw [stepA_reads]; omega⟩, by dsimp only; omega, rfl, rfl, rfl, rfl, rfl, rfl, fun _ _ => rfl, fun _ _ => rfl, fun _ _ => rfl⟩
  rw [y.hf j hj]
  unfold putC
  by_cases e : j = i
  · subst e
    rw [if_pos rfl, isInC_stepF, hc]
  · rw [if_neg e]
theorem C1.turn (y : C1 W a len plen) (h12 : len ≤ 12) (hk : y.k < plen) {i : Nat} (hi : i < len) (hd : doneC (y.c i) = true) {b : Bool} (hb : y.f i = b) {st : Cnt} (hst : st = freshC (slF W a i) (if b = true then fullB else 1)) : CntOk st y.A ∧ ∃ y' : C1 W a len plen, plen - y'.k < plen - y.k ∧ (y'.k : Int) = (y.k : Int) + 1 ∧ y'.cap = y.cap ∧ (y'.r0 : Int) = (y.r0 : Int) ∧ y'.A = stepA st y.A ∧ y'.x = y.x ∧
    (y'.c = fun j => if j = i then some (stepC st) else y.c j) ∧ (∀ j, j < len → y'.f j = if j = i then !y.f i else y.f j) ∧ (∀ j, j < len → y'.alw j = if j = i then false else y.alw j) ∧ (∀ j, j < len → y'.som j = if j = i then true else y.som j) := by
  have hr := y.hr
  have hct : CtInv y.A0 (slF W a) len (putC y.c i (some st)) y.A := by
    subst hst
    cases b with
    | true => exact y.hi.ct.exit hi hd (by rw [← y.hf i hi]; exact hb)
    | false => exact y.hi.ct.enter hi hd (by rw [← y.hf i hi]; exact hb)
  have hc : putC y.c i (some st) i = some st := if_pos rfl
  refine ⟨hct.okS y.h0 (slF_le W a) hi hc, ⟨y.k + 1, y.cap, y.A0, stepA st y.A, putC (putC y.c i (some st)) i (some (stepC st)), y.x, fun j => if j = i then !y.f i else y.f j, fun j => if j = i then false else y.alw j, fun j => if j = i then true else y.som j, y.r0, hk, y.hc, y.h0, y.hi.other (hct.step y.h0 (slF_le W a) (by omega) hi hc) (fun j hj => ?_) (stepA_reads st y.A), fun j hj => ?_, by rw [stepA_reads]; omega⟩, by dsimp only; omega, rfl, rfl, rfl, rfl, rfl, ?_, fun _ _ => rfl, fun _ _ => rfl, fun _ _ => rfl⟩
  · unfold putC
    rw [if_neg hj, if_neg hj]
  · unfold putC
    by_cases e : j = i
    · subst e
      rw [if_pos rfl, if_pos rfl, isInC_stepF, hb, hst]
      cases b <;> rfl
    · rw [if_neg e, if_neg e, if_neg e]
      exact y.hf j hj
  · funext j
    unfold putC
    dsimp only
    by_cases e : j = i
    · rw [if_pos e, if_pos e]
    · rw [if_neg e, if_neg e, if_neg e]
theorem C2.zero (y : C1 W a len plen) : ∃ z : C2 y, (z.j : Int) = 0 ∧ (∀ i, i < len → z.alw i = y.alw i) ∧ (∀ i, i < len → z.som i = y.som i) :=
  ⟨⟨0, y.alw, y.som, Nat.zero_le _, fun q h => absurd h (Nat.not_lt_zero q), fun q h => absurd h (Nat.not_lt_zero q)⟩, rfl, fun _ _ => rfl, fun _ _ => rfl⟩
theorem C2.next {y : C1 W a len plen} (z : C2 y) (hj : z.j < len) {u v : Bool} (hu : u = (isInC (y.c z.j) && doneC (y.c z.j))) (hv : v = (isInC (y.c z.j) || !doneC (y.c z.j))) :
    ∃ z' : C2 y, len - z'.j < len - z.j ∧ (z'.j : Int) = (z.j : Int) + 1 ∧ (∀ i, i < len → z'.alw i = if i = z.j then u else z.alw i) ∧ (∀ i, i < len → z'.som i = if i = z.j then v else z.som i) := by
  refine ⟨⟨z.j + 1, fun i => if i = z.j then u else z.alw i, fun i => if i = z.j then v else z.som i, hj, fun q hq => ?_, fun q hq => ?_⟩, by dsimp only; omega, rfl, fun _ _ => rfl, fun _ _ => rfl⟩
  · by_cases e : q = z.j
    · subst e; rw [if_pos rfl]; exact hu
    · rw [if_neg e]; exact z.ha q (by omega)
  · by_cases e : q = z.j
    · subst e; rw [if_pos rfl]; exact hv
    · rw [if_neg e]; exact z.hs q (by omega)
theorem colRead_reads (x : Col) (A : Ar) : (colRead x A).t.reads ≤ A.t.reads + 1 := by
  unfold colRead
  split
  · exact Nat.le_refl _
  · exact Nat.le_refl _
  · exact Nat.le_succ _
theorem C1.look (y : C1 W a len plen) (hk : y.k < plen) : ∃ y' : C1 W a len plen, plen - y'.k < plen - y.k ∧ (y'.k : Int) = (y.k : Int) + 1 ∧ y'.cap = y.cap ∧ (y'.r0 : Int) = (y.r0 : Int) ∧ y'.A = colRead y.x y.A ∧ y'.x = colStep y.x y.A ∧
    y'.c = y.c ∧ (∀ j, j < len → y'.f j = y.f j) ∧ (∀ j, j < len → y'.alw j = y.alw j) ∧ (∀ j, j < len → y'.som j = y.som j) := by
  have hr := y.hr
  have h1 := colRead_reads y.x y.A
  exact ⟨⟨y.k + 1, y.cap, y.A0, colRead y.x y.A, y.c, colStep y.x y.A, y.f, y.alw, y.som, y.r0, hk, y.hc, y.h0, y.hi.step y.h0 (slF_le W a), y.hf, by omega⟩, by dsimp only; omega, rfl, rfl, rfl, rfl, rfl, rfl, fun _ _ => rfl, fun _ _ => rfl, fun _ _ => rfl⟩
theorem C2.done {y : C1 W a len plen} (z : C2 y) (hj : len ≤ z.j) (hk : y.k < plen) : ∃ y' : C1 W a len plen, plen - y'.k < plen - y.k ∧ (y'.k : Int) = (y.k : Int) + 1 ∧ y'.cap = y.cap ∧ (y'.r0 : Int) = (y.A.t.reads : Int) ∧ y'.A = colRead ⟨0, 0, 0, fun _ => 0, []⟩ y.A ∧ y'.x = colStep ⟨0, 0, 0, fun _ => 0, []⟩ y.A ∧
    y'.c = y.c ∧ (∀ j, j < len → y'.f j = y.f j) ∧ (∀ j, j < len → y'.alw j = z.alw j) ∧ (∀ j, j < len → y'.som j = z.som j) := by
  have hr := y.hr
  have h1 := colRead_reads ⟨0, 0, 0, fun _ => 0, []⟩ y.A
  have hn := FindI.new (alw := z.alw) (som := z.som) y.hi.ct (fun j hj' ha => by
    rw [z.ha j (by omega), Bool.and_eq_true] at ha; exact ha) (fun j hj' hs => by
    rw [z.hs j (by omega), Bool.or_eq_false_iff] at hs
    exact ⟨hs.1, by simpa using hs.2⟩)
  exact ⟨⟨y.k + 1, y.cap, y.A0, colRead ⟨0, 0, 0, fun _ => 0, []⟩ y.A, y.c, colStep ⟨0, 0, 0, fun _ => 0, []⟩ y.A, y.f, z.alw, z.som, y.A.t.reads, hk, y.hc, y.h0, hn.step y.h0 (slF_le W a), y.hf, by omega⟩, by dsimp only; omega, rfl, rfl, rfl, rfl, rfl, rfl, fun _ _ => rfl, fun _ _ => rfl, fun _ _ => rfl⟩
theorem slot_at (len : Nat) {v : Int} (h0 : 0 ≤ v) (hn : (v % (1 + (len : Int)) == 0) = false) : ∃ i : Nat, v % (1 + (len : Int)) - 1 = (i : Int) ∧ i < len := by
  have h1 := Int.emod_nonneg v (show (1 + (len : Int)) ≠ 0 by omega)
  have h2 := Int.emod_lt_of_pos v (show 0 < 1 + (len : Int) by omega)
  have h3 := beq_eq_false_iff_ne.1 hn
  exact ⟨(v % (1 + (len : Int)) - 1).toNat, by omega, by omega⟩
end
end Go.Proofs.Ytnfpkadepomjjaa
