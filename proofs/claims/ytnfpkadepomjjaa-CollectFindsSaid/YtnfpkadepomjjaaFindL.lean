/- CollectFinds: what a collect finds while others come and go. No program in sight. -/
import Derived.Test.YtnfpkadepomjjaaCntL
import Derived.Test.YtnfpkadepomjjaaBaseStill
set_option linter.all false
namespace Go.Proofs.Ytnfpkadepomjjaa
open Go Go.RowKit

def lgN (n : Nat) : Nat := if n < 2 then 0 else if n < 4 then 1 else if n < 8 then 2 else 3
/-- The first leaf that is still to be come to. -/
def leafN (g node : Nat) : Nat := node * 2 ^ (g - lgN node)
/-- How many reads at most are done before: by segments, by nodes. -/
def segI : Nat → Nat
  | 0 => 0
  | 1 => 2
  | 2 => 6
  | 3 => 14
  | _ => 30
def nodeI (g node : Nat) : Nat := segI g + 1 + (match g with
  | 0 => 0
  | 1 => ([0, 0, 1, 2] : List Nat).getD node 0
  | 2 => ([0, 0, 1, 4, 2, 3, 5, 6] : List Nat).getD node 0
  | _ => ([0, 0, 1, 8, 2, 5, 9, 12, 3, 4, 6, 7, 10, 11, 13, 14] : List Nat).getD node 0)
def onB (g node : Nat) : Bool :=
  let m := climb node node
  if 1 < m then leafN g (m + 1) == (node + 1) * 2 ^ (g - lgN node) && (decide (m + 1 < 2 ^ (g + 1)) && decide (nodeI g node < nodeI g (m + 1)))
  else (node + 1) * 2 ^ (g - lgN node) == 2 ^ (g + 1) && decide (nodeI g node < segI (g + 1))
def downB (g node : Nat) : Bool := if 2 ^ g ≤ node then g - lgN node == 0 else leafN g (2 * node) == leafN g node && (decide (2 * node < 2 ^ (g + 1)) && decide (nodeI g node < nodeI g (2 * node)))
theorem onB_all : ∀ g < 4, ∀ node < 16, 1 ≤ node → node < 2 ^ (g + 1) → onB g node = true := by decide
theorem downB_all : ∀ g < 4, ∀ node < 16, 1 ≤ node → node < 2 ^ (g + 1) → downB g node = true := by decide
def lgB (g node : Nat) : Bool := decide (g - lgN node ≤ g) && (decide (2 ^ g ≤ leafN g node) && (decide ((node + 1) * 2 ^ (g - lgN node) ≤ 2 ^ (g + 1)) && decide (nodeI g node < segI (g + 1))))
theorem lgB_all0 : ∀ g < 4, ∀ node < 16, 1 ≤ node → node < 2 ^ (g + 1) → lgB g node = true := by decide
theorem lgB_all (g : Nat) (hg : g < 4) (node : Nat) (h16 : node < 16) (h1 : 1 ≤ node) (h2 : node < 2 ^ (g + 1)) : g - lgN node ≤ g ∧ 2 ^ g ≤ leafN g node ∧ (node + 1) * 2 ^ (g - lgN node) ≤ 2 ^ (g + 1) ∧ nodeI g node < segI (g + 1) := by
  have h := lgB_all0 g hg node h16 h1 h2
  simp only [lgB, Bool.and_eq_true, decide_eq_true_eq] at h
  exact h
theorem rootB_all : ∀ g < 4, leafN g 1 = 2 ^ g ∧ nodeI g 1 = segI g + 1 := by decide
theorem climb_one : climb 1 1 = 1 := rfl
def posL (x : Col) : Nat := if x.ph = 1 then leafN x.g x.node else 2 ^ x.g
def idxC (x : Col) : Nat := if x.ph = 0 then segI x.g else if x.ph = 1 then nodeI x.g x.node else segI x.g + 1
structure FindI (A0 : Ar) (σ : Nat → Nat) (n : Nat) (c : Nat → Option Cnt) (A : Ar) (x : Col) (alw som : Nat → Bool) (r0 : Nat) : Prop where
  ct : CtInv A0 σ n c A
  al : ∀ j, j < n → alw j = true → isInC (c j) = true ∧ doneC (c j) = true
  so : ∀ j, j < n → som j = false → isInC (c j) = false ∧ doneC (c j) = true
  ph : x.ph ≤ 2
  g4 : x.g ≤ 4
  segs : ∀ k, k < x.g ∨ (k = x.g ∧ x.ph = 1) → x.segs k = (k + 1) * 65537
  p1 : x.ph = 1 → x.g < 4 ∧ 1 ≤ x.node ∧ x.node < 2 ^ (x.g + 1)
  p2 : x.ph = 2 → x.g = 4
  found : ∀ j, j < n → alw j = true → ((segG (σ j) + 1) * 65537, σ j) ∈ x.pl ∨ posL x ≤ σ j + 1
  pls : ∀ p ∈ x.pl, p.2 + 1 < posL x ∧ p.1 = (segG p.2 + 1) * 65537 ∧ ∃ j, j < n ∧ som j = true ∧ σ j = p.2
  sorted : x.pl.Pairwise fun p q => p.2 < q.2
  reads : r0 ≤ A.t.reads ∧ A.t.reads ≤ r0 + idxC x
  none : (∀ j, j < n → som j = false) → (x.ph = 1 → x.node = 1) ∧ A.t.reads ≤ r0 + 2 * x.g + (if x.ph = 0 then 0 else 1)
  len : x.pl.length ≤ 16
section
variable {A0 A : Ar} {σ : Nat → Nat} {n : Nat} {c : Nat → Option Cnt} {x : Col} {alw som : Nat → Bool} {r0 : Nat}
theorem FindI.fixed (h0 : SegOk 4 A0) (h : FindI A0 σ n c A x alw som r0) {g : Nat} (hg : g < 8) : A.Has 0 (g + 1 : Nat) ∧ A.rd 0 (g + 1 : Nat) = if g < 4 then (g + 1) * 65537 else 0 := by
  refine ⟨has_fixed A (by omega), ?_⟩
  unfold Ar.rd
  rw [Int.toNat_natCast, show (0 : Int).toNat = 0 from rfl, h.ct.word]
  have e : A0.word 0 (g + 1) = some (A0.fixed (g + 1)) := by unfold Ar.word; rw [if_pos rfl, if_pos (by omega)]
  have hz : ∀ m, m ≤ n → sumC c 0 (g + 1) m = 0 := fun m => by
    induction m with
    | zero => intro _; rfl
    | succ m ih =>
      intro hm
      simp only [sumC]
      rw [ih (by omega)]
      cases hc : c m with
      | none => rfl
      | some st =>
        obtain ⟨e1, e2, _⟩ := h.ct.ok m (by omega) st hc
        have hp : ∀ k, onPath st.s k 0 (g + 1) st.sg = 0 := fun k => by unfold onPath; rw [if_neg (by omega)]
        simp only [cov, hp]
        split <;> rfl
  rw [e, h0.fixed g hg, hz n (Nat.le_refl n)]
  rfl
/-- A node's counter. -/
theorem FindI.node (h0 : SegOk 4 A0) (h : FindI A0 σ n c A x alw som r0) {g node : Nat} (hg : g < 4) (hn : node < 2 ^ (g + 1)) :
    A.Has (((g + 1) * 65537 : Nat) : Int) ((5 * 2 ^ g + node : Nat) : Int) ∧ A.rd (((g + 1) * 65537 : Nat) : Int) (5 * ((2 ^ g : Nat) : Int) + (node : Int)) = sumC c ((g + 1) * 65537) (5 * 2 ^ g + node) n := by
  rw [Nat.pow_succ] at hn
  have hw := h.ct.at h0 hg (i := 5 * 2 ^ g + node) (by omega)
  refine ⟨has_word hw (by omega), ?_⟩
  unfold Ar.rd
  rw [Int.toNat_natCast, show (5 * ((2 ^ g : Nat) : Int) + (node : Int)).toNat = 5 * 2 ^ g + node by omega, hw]
  rfl
/-- Who is there all the time is counted at each node of its path. -/
theorem FindI.there (h0 : SegOk 4 A0) (h : FindI A0 σ n c A x alw som r0) {j : Nat} (hj : j < n) (ha : alw j = true) {k : Nat} (hk : k ≤ segG (σ j)) :
    1 ≤ sumC c ((segG (σ j) + 1) * 65537) (5 * 2 ^ segG (σ j) + (σ j + 1) / 2 ^ k) n := by
  obtain ⟨hin, hd⟩ := h.al j hj ha
  have hge := sumC_ge (c := c) (h := (segG (σ j) + 1) * 65537) (i := 5 * 2 ^ segG (σ j) + (σ j + 1) / 2 ^ k) hj
  cases hc : c j with
  | none => rw [hc] at hin; cases hin
  | some st =>
    rw [hc] at hge hin hd
    obtain ⟨e1, e2, e3, e4, e5⟩ := h.ct.ok j hj st hc
    have hd : st.last ≤ st.first := of_decide_eq_true hd
    have hin : st.by' = 1 := by simpa [isInC] using hin
    have hf : st.first = segG (σ j) + 1 := by omega
    simp only [cov, if_pos hin, hf, e1, e2] at hge
    rw [onPath_one (Nat.le_refl _), if_pos ⟨rfl, k, by omega, rfl⟩] at hge
    exact hge
/-- Who is counted at a leaf was there. -/
theorem FindI.leaf (h : FindI A0 σ n c A x alw som r0) (hσ : ∀ j, σ j ≤ 14) {g node : Nat} (hg : g < 4) (h1 : 2 ^ g ≤ node) (h2 : node < 2 ^ (g + 1)) (hs : sumC c ((g + 1) * 65537) (5 * 2 ^ g + node) n ≠ 0) :
    ∃ j, j < n ∧ som j = true ∧ σ j = node - 1 := by
  have key : ∀ m, m ≤ n → sumC c ((g + 1) * 65537) (5 * 2 ^ g + node) m ≠ 0 → ∃ j, j < m ∧ cov (c j) ((g + 1) * 65537) (5 * 2 ^ g + node) ≠ 0 := fun m => by
    induction m with
    | zero => intro _ e; exact absurd rfl e
    | succ m ih =>
      intro hm e
      simp only [sumC] at e
      by_cases e1 : sumC c ((g + 1) * 65537) (5 * 2 ^ g + node) m = 0
      · exact ⟨m, Nat.lt_succ_self m, by omega⟩
      · obtain ⟨j, hj, hc⟩ := ih (by omega) e1
        exact ⟨j, by omega, hc⟩
  obtain ⟨j, hj, hc⟩ := key n (Nat.le_refl n) hs
  refine ⟨j, hj, ?_, ?_⟩
  · cases hso : som j with
    | true => rfl
    | false =>
      exfalso
      obtain ⟨hin, hd⟩ := h.so j hj hso
      cases hcj : c j with
      | none => rw [hcj] at hc; exact hc rfl
      | some st =>
        rw [hcj] at hc hin hd
        obtain ⟨e1, e2, e3, e4, e5⟩ := h.ct.ok j hj st hcj
        have hd : st.last ≤ st.first := of_decide_eq_true hd
        have hin : ¬ st.by' = 1 := by simpa [isInC] using hin
        have hf : st.first = segG st.s + 1 := by rw [e1]; omega
        simp only [cov, if_neg hin, hf] at hc
        omega
  · cases hcj : c j with
    | none => rw [hcj] at hc; exact absurd rfl hc
    | some st =>
      rw [hcj] at hc
      obtain ⟨e1, e2, e3, e4, e5⟩ := h.ct.ok j hj st hcj
      have hp : onPath (σ j) (segG (σ j) + 1) ((g + 1) * 65537) (5 * 2 ^ g + node) ((segG (σ j) + 1) * 65537) ≠ 0 := by
        intro hz
        apply hc
        have hm := onPath_mono (s := σ j) (n := st.first) (m := segG (σ j) + 1) (h := (g + 1) * 65537) (i := 5 * 2 ^ g + node) (sg := (segG (σ j) + 1) * 65537) e4
        simp only [cov, e1, e2]
        split <;> omega
      rw [onPath_one (Nat.le_refl _)] at hp
      split at hp
      · rename_i hh
        obtain ⟨eh, k, hk, ek⟩ := hh
        have eg : segG (σ j) = g := by omega
        rw [eg] at ek hk
        have hs14 := hσ j
        have hs := seg_facts (s := σ j) (by omega)
        rw [eg] at hs
        cases k with
        | zero => simp at ek; omega
        | succ k =>
          have h3 : (σ j + 1) / 2 ^ (k + 1) ≤ (σ j + 1) / 2 := by
            rw [Nat.pow_succ, Nat.mul_comm, ← Nat.div_div_eq_div_mul]
            exact Nat.div_le_self _ _
          omega
      · exact absurd rfl hp
theorem FindI.quiet (h : FindI A0 σ n c A x alw som r0) (hn : ∀ j, j < n → som j = false) (k i : Nat) : sumC c k i n = 0 := by
  have key : ∀ m, m ≤ n → sumC c k i m = 0 := fun m => by
    induction m with
    | zero => intro _; rfl
    | succ m ih =>
      intro hm
      simp only [sumC]
      rw [ih (by omega)]
      obtain ⟨hin, hd⟩ := h.so m (by omega) (hn m (by omega))
      cases hc : c m with
      | none => rfl
      | some st =>
        rw [hc] at hin hd
        obtain ⟨e1, e2, e3, e4, e5⟩ := h.ct.ok m (by omega) st hc
        have hd : st.last ≤ st.first := of_decide_eq_true hd
        have hin : ¬ st.by' = 1 := by simpa [isInC] using hin
        have hf : st.first = segG st.s + 1 := by rw [e1]; omega
        simp only [cov, if_neg hin, hf]
        omega
  exact key n (Nat.le_refl n)
theorem CtInv.read (h : CtInv A0 σ n c A) : CtInv A0 σ n c A.read := ⟨h.ok, h.faults, h.back, h.word⟩
theorem leaf_seg {g s : Nat} (h1 : 2 ^ g ≤ s + 1) (h2 : s + 1 < 2 ^ (g + 1)) : segG s = g := segG_of h1 h2
/-- A new collect begins. -/
theorem FindI.new {A0 A : Ar} {c : Nat → Option Cnt} (ct : CtInv A0 σ n c A) (hal : ∀ j, j < n → alw j = true → isInC (c j) = true ∧ doneC (c j) = true) (hso : ∀ j, j < n → som j = false → isInC (c j) = false ∧ doneC (c j) = true) :
    FindI A0 σ n c A ⟨0, 0, 0, fun _ => 0, []⟩ alw som A.t.reads :=
  ⟨ct, hal, hso, Nat.zero_le _, Nat.zero_le _, fun k hk => by dsimp only at hk; omega, fun h => (by cases h), fun h => (by cases h), fun j _ _ => .inr (by show 1 ≤ _; omega), fun p hp => (by cases hp), List.Pairwise.nil, ⟨Nat.le_refl _, Nat.le_refl _⟩, fun _ => ⟨fun h => (by cases h), Nat.le_refl _⟩, Nat.zero_le _⟩
/-- Another one does a step. -/
theorem FindI.other (h : FindI A0 σ n c A x alw som r0) {c' : Nat → Option Cnt} {A' : Ar} (ct : CtInv A0 σ n c' A') {i : Nat} (hc : ∀ j, j ≠ i → c' j = c j) (hr : A'.t.reads = A.t.reads) :
    FindI A0 σ n c' A' x (fun j => if j = i then false else alw j) (fun j => if j = i then true else som j) r0 := by
  refine ⟨ct, fun j hj ha => ?_, fun j hj hs => ?_, h.ph, h.g4, h.segs, h.p1, h.p2, fun j hj ha => ?_, fun p hp => ?_, h.sorted, by rw [hr]; exact h.reads, fun hn => ?_, h.len⟩
  · by_cases e : j = i
    · rw [if_pos e] at ha; cases ha
    · rw [if_neg e] at ha
      rw [hc j e]; exact h.al j hj ha
  · by_cases e : j = i
    · rw [if_pos e] at hs; cases hs
    · rw [if_neg e] at hs
      rw [hc j e]; exact h.so j hj hs
  · by_cases e : j = i
    · rw [if_pos e] at ha; cases ha
    · rw [if_neg e] at ha
      exact h.found j hj ha
  · obtain ⟨h1, h2, j, hj, hs, he⟩ := h.pls p hp
    refine ⟨h1, h2, j, hj, ?_, he⟩
    by_cases e : j = i
    · rw [if_pos e]
    · rw [if_neg e]; exact hs
  · rw [hr]
    refine h.none fun j hj => ?_
    have := hn j hj
    by_cases e : j = i
    · rw [if_pos e] at this; cases this
    · rw [if_neg e] at this; exact this
theorem FindI.okS (h0 : SegOk 4 A0) (h : FindI A0 σ n c A x alw som r0) : x.pl.length < 1000000000 ∧ ((x.ph = 0 ∧ x.g < 8) ∨ (x.ph = 1 ∧ x.g < 8 ∧ (1 ≤ x.node ∧ x.node < 2 * 2 ^ x.g) ∧ A.Has (x.segs x.g : Nat) ((5 * 2 ^ x.g + x.node : Nat) : Int)) ∨ x.ph = 2) := by
  have hl := h.len
  refine ⟨by omega, ?_⟩
  have hp := h.ph
  have hg := h.g4
  rcases (by omega : x.ph = 0 ∨ x.ph = 1 ∨ x.ph = 2) with e | e | e
  · exact .inl ⟨e, by omega⟩
  · obtain ⟨h1, h2, h3⟩ := h.p1 e
    refine .inr (.inl ⟨e, by omega, ⟨h2, by rw [Nat.pow_succ] at h3; omega⟩, ?_⟩)
    rw [h.segs x.g (.inr ⟨rfl, e⟩)]
    exact (h.node h0 h1 h3).1
  · exact .inr (.inr e)
/-- On to the next node: all leaves below this one are done with. -/
theorem FindI.on (h : FindI A0 σ n c A x alw som r0) (h1 : x.ph = 1) {pl : List (Nat × Nat)}
    (hf : ∀ j, j < n → alw j = true → ((segG (σ j) + 1) * 65537, σ j) ∈ pl ∨ (x.node + 1) * 2 ^ (x.g - lgN x.node) ≤ σ j + 1)
    (hp : ∀ p ∈ pl, p.2 + 1 < (x.node + 1) * 2 ^ (x.g - lgN x.node) ∧ p.1 = (segG p.2 + 1) * 65537 ∧ ∃ j, j < n ∧ som j = true ∧ σ j = p.2) (hso : pl.Pairwise fun p q => p.2 < q.2) (hl : pl.length ≤ 16) :
    FindI A0 σ n c A.read (colOn { x with pl := pl }) alw som r0 := by
  obtain ⟨hg, hn1, hn2⟩ := h.p1 h1
  have h16 : 2 ^ (x.g + 1) ≤ 2 ^ 4 := Nat.pow_le_pow_right (by omega) (by omega)
  have hon := onB_all x.g hg x.node (by omega) hn1 hn2
  obtain ⟨r1, r2⟩ := h.reads
  have ei : idxC x = nodeI x.g x.node := by unfold idxC; rw [h1]; rfl
  unfold onB at hon
  unfold colOn
  dsimp only at hon ⊢
  by_cases hm : 1 < climb x.node x.node
  · rw [if_pos hm] at hon ⊢
    simp only [Bool.and_eq_true, beq_iff_eq, decide_eq_true_eq] at hon
    obtain ⟨o1, o2, o3⟩ := hon
    have ep : posL { x with node := climb x.node x.node + 1, pl := pl } = (x.node + 1) * 2 ^ (x.g - lgN x.node) := by unfold posL; dsimp only; rw [h1, if_pos rfl, o1]
    refine ⟨h.ct.read, h.al, h.so, h.ph, h.g4, h.segs, fun _ => ⟨hg, Nat.succ_pos _, o2⟩, fun e => ?_, fun j hj ha => ?_, fun p hpp => ?_, hso, ⟨?_, ?_⟩, fun hnn => ?_, hl⟩
    · dsimp only at e; omega
    · rw [ep]; exact hf j hj ha
    · rw [ep]; exact hp p hpp
    · show r0 ≤ A.t.reads + 1; omega
    · have : idxC { x with node := climb x.node x.node + 1, pl := pl } = nodeI x.g (climb x.node x.node + 1) := by unfold idxC; dsimp only; rw [h1]; rfl
      rw [this]
      show A.t.reads + 1 ≤ _
      omega
    · have := (h.none hnn).1 h1
      rw [this, climb_one] at hm
      omega
  · rw [if_neg hm] at hon ⊢
    simp only [Bool.and_eq_true, beq_iff_eq, decide_eq_true_eq] at hon
    obtain ⟨o1, o2⟩ := hon
    rw [if_neg (show ¬ x.g + 1 = 8 by omega)]
    have ep : posL { x with node := climb x.node x.node, g := x.g + 1, ph := 0, pl := pl } = (x.node + 1) * 2 ^ (x.g - lgN x.node) := by unfold posL; dsimp only; rw [if_neg (by decide), o1]
    refine ⟨h.ct.read, h.al, h.so, Nat.zero_le _, by show x.g + 1 ≤ 4; omega, fun k hk => ?_, fun e => (by cases e), fun e => (by cases e), fun j hj ha => ?_, fun p hpp => ?_, hso, ⟨?_, ?_⟩, fun hnn => ⟨fun e => (by cases e), ?_⟩, hl⟩
    · dsimp only at hk
      refine h.segs k ?_
      rcases hk with hk | ⟨_, hk⟩
      · by_cases e : k = x.g
        · exact .inr ⟨e, h1⟩
        · exact .inl (by omega)
      · cases hk
    · rw [ep]; exact hf j hj ha
    · rw [ep]; exact hp p hpp
    · show r0 ≤ A.t.reads + 1; omega
    · show A.t.reads + 1 ≤ r0 + segI (x.g + 1)
      omega
    · have := (h.none hnn).2
      rw [h1] at this
      simp only [show ¬ (1 : Nat) = 0 by decide, if_false] at this
      show A.t.reads + 1 ≤ r0 + 2 * (x.g + 1) + 0
      omega
theorem FindI.step (h0 : SegOk 4 A0) (hσ : ∀ j, σ j ≤ 14) (h : FindI A0 σ n c A x alw som r0) : FindI A0 σ n c (colRead x A) (colStep x A) alw som r0 := by
  have hp := h.ph
  have hg := h.g4
  rcases (by omega : x.ph = 0 ∨ x.ph = 1 ∨ x.ph = 2) with e | e | e
  · have er : colRead x A = A.read := by unfold colRead; simp only [e]
    have es : colStep x A = colLook x A := by unfold colStep; simp only [e]
    rw [er, es]
    obtain ⟨_, hr⟩ := h.fixed h0 (g := x.g) (by omega)
    obtain ⟨r1, r2⟩ := h.reads
    have ei : idxC x = segI x.g := by unfold idxC; rw [if_pos e]
    have epx : posL x = 2 ^ x.g := by unfold posL; rw [if_neg (by omega)]
    unfold colLook
    simp only [hr]
    by_cases h4 : x.g < 4
    · rw [if_pos h4, if_neg (by omega)]
      obtain ⟨b1, b2⟩ := rootB_all x.g h4
      have ep : posL { x with segs := updS x.segs x.g ((x.g + 1) * 65537), ph := 1, node := 1 } = posL x := by rw [epx]; unfold posL; dsimp only; rw [if_pos rfl, b1]
      refine ⟨h.ct.read, h.al, h.so, by show 1 ≤ 2; omega, h.g4, fun k hk => ?_, fun _ => ⟨h4, Nat.le_refl 1, ?_⟩, fun e => (by cases e), fun j hj ha => ?_, fun p hpp => ?_, h.sorted, ⟨?_, ?_⟩, fun hnn => ⟨fun _ => rfl, ?_⟩, h.len⟩
      · dsimp only at hk ⊢
        unfold updS
        by_cases ek : k = x.g
        · rw [if_pos ek, ek]
        · rw [if_neg ek]
          exact h.segs k (.inl (by omega))
      · show 1 < 2 ^ (x.g + 1)
        have : 1 ≤ 2 ^ x.g := Nat.one_le_two_pow
        rw [Nat.pow_succ]; omega
      · rw [ep]; exact h.found j hj ha
      · rw [ep]; exact h.pls p hpp
      · show r0 ≤ A.t.reads + 1; omega
      · show A.t.reads + 1 ≤ r0 + nodeI x.g 1
        omega
      · have := (h.none hnn).2
        rw [if_pos e] at this
        show A.t.reads + 1 ≤ r0 + 2 * x.g + 1
        omega
    · rw [if_neg h4, if_pos rfl]
      have eg : x.g = 4 := by omega
      have ep : posL { x with segs := updS x.segs x.g 0, ph := 2 } = posL x := by rw [epx]; unfold posL; dsimp only; rw [if_neg (by decide)]
      refine ⟨h.ct.read, h.al, h.so, Nat.le_refl 2, h.g4, fun k hk => ?_, fun e => (by cases e), fun _ => eg, fun j hj ha => ?_, fun p hpp => ?_, h.sorted, ⟨?_, ?_⟩, fun hnn => ⟨fun e => (by cases e), ?_⟩, h.len⟩
      · dsimp only at hk ⊢
        unfold updS
        rcases hk with hk | ⟨_, hk⟩
        · rw [if_neg (by omega)]
          exact h.segs k (.inl hk)
        · cases hk
      · rw [ep]; exact h.found j hj ha
      · rw [ep]; exact h.pls p hpp
      · show r0 ≤ A.t.reads + 1; omega
      · show A.t.reads + 1 ≤ r0 + (segI x.g + 1)
        omega
      · have := (h.none hnn).2
        rw [if_pos e] at this
        show A.t.reads + 1 ≤ r0 + 2 * x.g + 1
        omega
  · have er : colRead x A = A.read := by unfold colRead; simp only [e]
    have es : colStep x A = colCnt x A := by unfold colStep; simp only [e]
    obtain ⟨hg4, hn1, hn2⟩ := h.p1 e
    have h16 : 2 ^ (x.g + 1) ≤ 2 ^ 4 := Nat.pow_le_pow_right (by omega) (by omega)
    obtain ⟨b1, b2, b3, b4⟩ := lgB_all x.g hg4 x.node (by omega) hn1 hn2
    have hrd := (h.node h0 hg4 hn2).2
    have hseg := h.segs x.g (.inr ⟨rfl, e⟩)
    have epx : posL x = leafN x.g x.node := by unfold posL; rw [if_pos e]
    rw [er, es]
    unfold colCnt
    rw [hseg, hrd]
    by_cases hz : sumC c ((x.g + 1) * 65537) (5 * 2 ^ x.g + x.node) n = 0
    · rw [if_pos hz]
      refine h.on e (fun j hj ha => ?_) (fun p hpp => ?_) h.sorted h.len
      · rcases h.found j hj ha with h1 | h1
        · exact .inl h1
        · right
          rcases Nat.lt_or_ge (σ j + 1) ((x.node + 1) * 2 ^ (x.g - lgN x.node)) with hlt | hge
          · exfalso
            rw [epx] at h1
            have hgj : segG (σ j) = x.g := leaf_seg (by omega) (by omega)
            have ht := h.there h0 hj ha (k := x.g - lgN x.node) (by omega)
            have hd : (σ j + 1) / 2 ^ (x.g - lgN x.node) = x.node := Nat.div_eq_of_lt_le h1 hlt
            rw [hgj, hd] at ht
            omega
          · exact hge
      · obtain ⟨p1, p2, p3⟩ := h.pls p hpp
        refine ⟨?_, p2, p3⟩
        rw [epx] at p1
        have : leafN x.g x.node ≤ (x.node + 1) * 2 ^ (x.g - lgN x.node) := Nat.mul_le_mul_right _ (Nat.le_succ _)
        omega
    · rw [if_neg hz]
      have hdn := downB_all x.g hg4 x.node (by omega) hn1 hn2
      unfold downB at hdn
      by_cases hl : 2 ^ x.g ≤ x.node
      · rw [if_pos hl] at hdn ⊢
        simp only [beq_iff_eq] at hdn
        have ele : leafN x.g x.node = x.node := by unfold leafN; rw [hdn, Nat.pow_zero, Nat.mul_one]
        rw [ele] at epx
        obtain ⟨j, hj, hjs, hje⟩ := h.leaf hσ hg4 hl hn2 hz
        have hgn : segG (x.node - 1) = x.g := leaf_seg (by omega) (by omega)
        refine h.on e (fun k hk ha => ?_) (fun p hpp => ?_) ?_ ?_
        · rw [hdn, Nat.pow_zero, Nat.mul_one]
          rcases h.found k hk ha with h1 | h1
          · exact .inl (List.mem_append_left _ h1)
          · by_cases ek : σ k + 1 = x.node
            · left
              refine List.mem_append_right _ ?_
              have : σ k = x.node - 1 := by omega
              rw [this, hgn]
              exact List.mem_singleton.2 rfl
            · right; omega
        · rw [hdn, Nat.pow_zero, Nat.mul_one]
          rcases List.mem_append.1 hpp with hq | hq
          · obtain ⟨p1, p2, p3⟩ := h.pls p hq
            exact ⟨by omega, p2, p3⟩
          · rw [List.mem_singleton] at hq
            subst hq
            dsimp only
            exact ⟨by omega, by rw [hgn], j, hj, hjs, hje⟩
        · rw [List.pairwise_append]
          refine ⟨h.sorted, List.pairwise_singleton _ _, fun p hpp q hq => ?_⟩
          rw [List.mem_singleton] at hq
          subst hq
          have := (h.pls p hpp).1
          dsimp only
          omega
        · rw [List.length_append]
          have key : ∀ (l : List (Nat × Nat)) (a b : Nat), l.Pairwise (fun p q => p.2 < q.2) → (∀ p ∈ l, a ≤ p.2 ∧ p.2 < b) → l.length ≤ b - a := by
            intro l
            induction l with
            | nil => intro a b _ _; exact Nat.zero_le _
            | cons p l ih =>
              intro a b hs hb
              rw [List.pairwise_cons] at hs
              have h1 := ih (p.2 + 1) b hs.2 fun q hq => ⟨hs.1 q hq, (hb q (List.mem_cons_of_mem _ hq)).2⟩
              have h2 := hb p (List.mem_cons_self ..)
              simp only [List.length_cons]
              omega
          have := key x.pl 0 15 h.sorted fun p hpp => by
            obtain ⟨_, _, k, hk, _, hke⟩ := h.pls p hpp
            have := hσ k
            omega
          simp only [List.length_cons, List.length_nil]
          omega
      · rw [if_neg hl] at hdn ⊢
        simp only [Bool.and_eq_true, beq_iff_eq, decide_eq_true_eq] at hdn
        obtain ⟨d1, d2, d3⟩ := hdn
        have ep : posL { x with node := 2 * x.node } = posL x := by rw [epx]; unfold posL; dsimp only; rw [if_pos e, d1]
        obtain ⟨r1, r2⟩ := h.reads
        have ei : idxC x = nodeI x.g x.node := by unfold idxC; rw [e]; rfl
        refine ⟨h.ct.read, h.al, h.so, h.ph, h.g4, h.segs, fun _ => ⟨hg4, by show 1 ≤ 2 * x.node; omega, d2⟩, fun e2 => by dsimp only at e2; omega, fun j hj ha => ?_, fun p hpp => ?_, h.sorted, ⟨?_, ?_⟩, fun hnn => ?_, h.len⟩
        · rw [ep]; exact h.found j hj ha
        · rw [ep]; exact h.pls p hpp
        · show r0 ≤ A.t.reads + 1; omega
        · have : idxC { x with node := 2 * x.node } = nodeI x.g (2 * x.node) := by unfold idxC; dsimp only; rw [e]; rfl
          rw [this]
          show A.t.reads + 1 ≤ _
          omega
        · exact absurd (h.quiet hnn _ _) hz
  · have er : colRead x A = A := by unfold colRead; simp only [e]
    have es : colStep x A = x := by unfold colStep; simp only [e]
    rw [er, es]
    exact h
/-- At the end. -/
theorem FindI.all (h : FindI A0 σ n c A x alw som r0) (hσ : ∀ j, σ j ≤ 14) (e : x.ph = 2) {j : Nat} (hj : j < n) (ha : alw j = true) : ((segG (σ j) + 1) * 65537, σ j) ∈ x.pl := by
  rcases h.found j hj ha with h1 | h1
  · exact h1
  · exfalso
    have h2 := hσ j
    unfold posL at h1
    rw [if_neg (by omega), h.p2 e] at h1
    omega
theorem FindI.few (h : FindI A0 σ n c A x alw som r0) (e : x.ph = 2) : A.t.reads ≤ r0 + 31 ∧ ((∀ j, j < n → som j = false) → A.t.reads ≤ r0 + 9) := by
  obtain ⟨r1, r2⟩ := h.reads
  have eg := h.p2 e
  have ei : idxC x = 31 := by unfold idxC; rw [if_neg (by omega), if_neg (by omega), eg]; rfl
  refine ⟨by omega, fun hn => ?_⟩
  have := (h.none hn).2
  rw [eg, if_neg (by omega)] at this
  omega
end
end Go.Proofs.Ytnfpkadepomjjaa
