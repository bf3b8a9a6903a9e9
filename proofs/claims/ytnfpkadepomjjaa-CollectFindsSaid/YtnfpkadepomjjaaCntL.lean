/- Counters are sums over those that count, whatever steps they have done. No program in sight. -/
import Derived.Test.YtnfpkadepomjjaaBaseTop
set_option linter.all false
namespace Go.Proofs.Ytnfpkadepomjjaa
open Go Go.RowKit

def fullB : Nat := 18446744073709551615
/-- What one adds to a word just now. -/
def cov (o : Option Cnt) (h i : Nat) : Nat := match o with
  | none => 0
  | some st => if st.by' = 1 then onPath st.s st.first h i st.sg else onPath st.s (segG st.s + 1) h i st.sg - onPath st.s st.first h i st.sg
def sumC (c : Nat → Option Cnt) (h i : Nat) : Nat → Nat
  | 0 => 0
  | n + 1 => sumC c h i n + cov (c n) h i
def putC (c : Nat → Option Cnt) (i : Nat) (o : Option Cnt) (j : Nat) : Option Cnt := if j = i then o else c j
theorem sumC_congr {c d : Nat → Option Cnt} {h i : Nat} : ∀ {n : Nat}, (∀ j, j < n → cov (c j) h i = cov (d j) h i) → sumC c h i n = sumC d h i n
  | 0, _ => rfl
  | n + 1, e => by
    simp only [sumC]
    rw [sumC_congr fun j hj => e j (Nat.lt_succ_of_lt hj), e n (Nat.lt_succ_self n)]
theorem sumC_put {c : Nat → Option Cnt} {h i k : Nat} {o : Option Cnt} : ∀ {n : Nat}, k < n → sumC (putC c k o) h i n + cov (c k) h i = sumC c h i n + cov o h i
  | n + 1, hk => by
    simp only [sumC]
    by_cases e : k = n
    · subst e
      have e1 : sumC (putC c k o) h i k = sumC c h i k := sumC_congr fun j hj => by unfold putC; rw [if_neg (by omega)]
      rw [e1]
      unfold putC
      rw [if_pos rfl]
      omega
    · have := sumC_put (c := c) (h := h) (i := i) (o := o) (n := n) (show k < n by omega)
      have e2 : putC c k o n = c n := by unfold putC; rw [if_neg (fun x => e x.symm)]
      rw [e2]
      omega
theorem sumC_ge {c : Nat → Option Cnt} {h i k : Nat} : ∀ {n : Nat}, k < n → cov (c k) h i ≤ sumC c h i n
  | n + 1, hk => by
    simp only [sumC]
    by_cases e : k = n
    · subst e; omega
    · have := sumC_ge (c := c) (h := h) (i := i) (n := n) (show k < n by omega)
      omega
/-- What one that counts may be, at the slot s. -/
def CtOk (s : Nat) (o : Option Cnt) : Prop := ∀ st, o = some st → st.s = s ∧ st.sg = (segG s + 1) * 65537 ∧ st.last = segG s + 1 ∧ st.first ≤ segG s + 1 ∧ (st.by' = 1 ∨ st.by' = fullB)
theorem CtOk.cov_le {s : Nat} {o : Option Cnt} (h : CtOk s o) (k i : Nat) : cov o k i ≤ 1 := by
  unfold cov
  cases o with
  | none => exact Nat.zero_le _
  | some st =>
    obtain ⟨h1, _, _, h4, _⟩ := h st rfl
    simp only
    split
    · exact onPath_le (by rw [h1]; exact h4)
    · have := onPath_le (s := st.s) (n := segG st.s + 1) (g' := k) (i := i) (sg := st.sg) (Nat.le_refl _)
      omega
theorem sumC_le {c : Nat → Option Cnt} {σ : Nat → Nat} {h i : Nat} : ∀ {n : Nat}, (∀ j, j < n → CtOk (σ j) (c j)) → sumC c h i n ≤ n
  | 0, _ => Nat.le_refl _
  | n + 1, e => by
    have h1 := sumC_le (c := c) (σ := σ) (h := h) (i := i) (n := n) fun j hj => e j (Nat.lt_succ_of_lt hj)
    have h2 := (e n (Nat.lt_succ_self n)).cov_le h i
    simp only [sumC]
    omega
theorem onPath_mono {s n m h i sg : Nat} (hm : n ≤ m) : onPath s n h i sg ≤ onPath s m h i sg := by
  induction m with
  | zero =>
    have : n = 0 := by omega
    rw [this]; exact Nat.le_refl _
  | succ m ih =>
    by_cases e : n = m + 1
    · rw [e]; exact Nat.le_refl _
    · have := ih (by omega)
      rw [onPath_succ]
      omega
/-- Is it within (or on its way in)? -/
def isInC (o : Option Cnt) : Bool := match o with
  | none => false
  | some st => st.by' == 1
def doneC (o : Option Cnt) : Bool := match o with
  | none => true
  | some st => isDone st
/-- The arena's words are what all add to them. -/
structure CtInv (A0 : Ar) (σ : Nat → Nat) (n : Nat) (c : Nat → Option Cnt) (A : Ar) : Prop where
  ok : ∀ j, j < n → CtOk (σ j) (c j)
  faults : A.faults = 0
  back : A.s.back = []
  word : ∀ h i, A.word h i = (A0.word h i).map (· + sumC c h i n)
section
variable {A0 A : Ar} {σ : Nat → Nat} {n : Nat} {c : Nat → Option Cnt}
theorem CtInv.zero (h0 : SegOk 4 A0) (σ : Nat → Nat) (n : Nat) : CtInv A0 σ n (fun _ => none) A0 := by
  have hz : ∀ h i n, sumC (fun _ => none) h i n = 0 := fun h i n => by
    induction n with
    | zero => rfl
    | succ n ih => simp only [sumC, ih, cov]
  exact ⟨fun j _ st h => (by cases h), h0.faults, h0.back, fun h i => by rw [hz]; simp⟩
theorem CtInv.at (h0 : SegOk 4 A0) (h : CtInv A0 σ n c A) {g i : Nat} (hg : g < 4) (hi : i < 7 * 2 ^ g) : A.word ((g + 1) * 65537) i = some (sumC c ((g + 1) * 65537) i n) := by
  rw [h.word, seg_word h0 hg hi]
  simp
theorem add_back (A : Ar) (h i y : Int) : (A.add h i y).s = A.s := by
  unfold Ar.add Ar.set Ar.tick
  split <;> rfl
theorem putC_self (c : Nat → Option Cnt) (i : Nat) : putC c i (c i) = c := by
  funext j
  unfold putC
  by_cases e : j = i
  · rw [if_pos e, e]
  · rw [if_neg e]
theorem CtInv.okS (h0 : SegOk 4 A0) (hσ : ∀ j, σ j ≤ 14) (h : CtInv A0 σ n c A) {i : Nat} (hi : i < n) {st : Cnt} (hc : c i = some st) : CntOk st A := by
  obtain ⟨e1, e2, e3, e4, e5⟩ := h.ok i hi st hc
  have hs := hσ i
  have hg := segG_14 hs
  refine ⟨by omega, by rw [e3, e1]; exact Nat.le_refl _, by rw [e2]; omega, fun hf => ?_⟩
  have hp := path_node (s := σ i) (j := st.first) (by omega) (by omega)
  have hw := h.at h0 (g := segG (σ i)) (i := 5 * 2 ^ segG (σ i) + (σ i + 1) / 2 ^ st.first) (by omega) (by omega)
  have ea : cntAddr st = 5 * 2 ^ segG (σ i) + (σ i + 1) / 2 ^ st.first := by unfold cntAddr; rw [e1]
  rw [ea, e2]
  exact has_word hw (by omega)
theorem CtInv.step (h0 : SegOk 4 A0) (hσ : ∀ j, σ j ≤ 14) (hn : n ≤ 1000) (h : CtInv A0 σ n c A) {i : Nat} (hi : i < n) {st : Cnt} (hc : c i = some st) : CtInv A0 σ n (putC c i (some (stepC st))) (stepA st A) := by
  have hok := h.okS h0 hσ hi hc
  obtain ⟨e1, e2, e3, e4, e5⟩ := h.ok i hi st hc
  have hs := hσ i
  have hg := segG_14 hs
  by_cases hf : st.first < st.last
  · have eC : stepC st = { st with first := st.first + 1 } := by unfold stepC; rw [if_pos hf]
    have eA : stepA st A = A.add (st.sg : Nat) (cntAddr st : Nat) (st.by' : Nat) := by unfold stepA; rw [if_pos hf]
    have hh := hok.2.2.2 hf
    have ea : cntAddr st = 5 * 2 ^ segG st.s + (st.s + 1) / 2 ^ st.first := rfl
    have hp := path_node (s := σ i) (j := st.first) (by omega) (by omega)
    have hw := h.at h0 (g := segG (σ i)) (i := cntAddr st) (by omega) (by rw [ea, e1]; omega)
    rw [← e2] at hw
    have hle := sumC_le (h := st.sg) (i := cntAddr st) h.ok
    rw [eC, eA]
    refine ⟨fun j hj => ?_, (Ar.faults_add _ _ _ _).trans h.faults, by rw [add_back]; exact h.back, fun k j => ?_⟩
    · unfold putC
      by_cases e : j = i
      · subst e
        rw [if_pos rfl]
        intro st' h'
        cases h'
        exact ⟨e1, e2, e3, by show st.first + 1 ≤ _; omega, e5⟩
      · rw [if_neg e]
        exact h.ok j hj
    · rw [Ar.word_add _ _ hh, rd_word hw]
      simp only [Int.toNat_natCast]
      have hput := sumC_put (c := c) (h := k) (i := j) (o := some { st with first := st.first + 1 }) hi
      rw [hc] at hput
      have hsucc := onPath_succ (s := st.s) (n := st.first) (g' := k) (i := j) (sg := st.sg)
      by_cases hkj : k = st.sg ∧ j = cntAddr st
      · rw [if_pos hkj]
        rw [if_pos (by rw [← ea]; exact hkj)] at hsucc
        obtain ⟨rfl, rfl⟩ := hkj
        have hA0 : A0.word st.sg (cntAddr st) = some 0 := by
          rw [e2]
          exact seg_word h0 (by omega) (by rw [ea, e1]; omega)
        rw [hA0]
        simp only [Option.map_some, Option.some.injEq]
        have h1 := onPath_le (s := st.s) (n := st.first + 1) (g' := st.sg) (i := cntAddr st) (sg := st.sg) (by rw [e1]; omega)
        have h2 := onPath_mono (s := st.s) (n := st.first + 1) (m := segG st.s + 1) (h := st.sg) (i := cntAddr st) (sg := st.sg) (by rw [e1]; omega)
        have h3 := onPath_le (s := st.s) (n := segG st.s + 1) (g' := st.sg) (i := cntAddr st) (sg := st.sg) (Nat.le_refl _)
        rcases e5 with e5 | e5
        · simp only [cov, if_pos e5] at hput
          have ew : addW (sumC c st.sg (cntAddr st) n) st.by' = sumC c st.sg (cntAddr st) n + 1 := by
            rw [e5]
            unfold addW TW
            rw [Nat.mod_eq_of_lt (by omega)]
          rw [ew]
          omega
        · have hne : ¬ st.by' = 1 := by rw [e5]; decide
          simp only [cov, if_neg hne] at hput
          have hge := sumC_ge (c := c) (h := st.sg) (i := cntAddr st) hi
          rw [hc] at hge
          simp only [cov, if_neg hne] at hge
          have ew : addW (sumC c st.sg (cntAddr st) n) st.by' = sumC c st.sg (cntAddr st) n - 1 := by
            rw [e5]
            unfold addW TW fullB
            have : (sumC c st.sg (cntAddr st) n + 18446744073709551615) = (sumC c st.sg (cntAddr st) n - 1) + 18446744073709551616 := by omega
            rw [this, Nat.add_mod_right, Nat.mod_eq_of_lt (by omega)]
          rw [ew]
          omega
      · rw [if_neg hkj]
        rw [if_neg (by rw [← ea]; exact hkj)] at hsucc
        rw [h.word]
        congr 2
        funext y
        congr 1
        have : cov (some { st with first := st.first + 1 }) k j = cov (some st) k j := by
          simp only [cov]
          rw [hsucc]
          rfl
        omega
  · have eC : stepC st = st := by unfold stepC; rw [if_neg hf]
    have eA : stepA st A = A := by unfold stepA; rw [if_neg hf]
    rw [eC, eA, ← hc, putC_self]
    exact h
/-- One that has come in turns out, and the other way round. -/
theorem CtInv.put (h : CtInv A0 σ n c A) {i : Nat} (hi : i < n) {st : Cnt} (hok : CtOk (σ i) (some st)) (hcov : ∀ k j, cov (some st) k j = cov (c i) k j) : CtInv A0 σ n (putC c i (some st)) A := by
  refine ⟨fun j hj => ?_, h.faults, h.back, fun k j => ?_⟩
  · unfold putC
    by_cases e : j = i
    · subst e
      rw [if_pos rfl]
      exact hok
    · rw [if_neg e]
      exact h.ok j hj
  · rw [h.word]
    congr 2
    funext y
    congr 1
    have hput := sumC_put (c := c) (h := k) (i := j) (o := some st) hi
    rw [hcov] at hput
    omega
def freshC (s b : Nat) : Cnt := ⟨(segG s + 1) * 65537, s, 0, segG s + 1, b⟩
theorem freshC_ok {s b : Nat} (hb : b = 1 ∨ b = fullB) : CtOk s (some (freshC s b)) := fun st h => by
  cases h
  exact ⟨rfl, rfl, rfl, Nat.zero_le _, hb⟩
theorem CtInv.enter (h : CtInv A0 σ n c A) {i : Nat} (hi : i < n) (hd : doneC (c i) = true) (hin : isInC (c i) = false) : CtInv A0 σ n (putC c i (some (freshC (σ i) 1))) A := by
  refine h.put hi (freshC_ok (.inl rfl)) fun k j => ?_
  have e0 : cov (some (freshC (σ i) 1)) k j = 0 := by
    show onPath (σ i) 0 k j ((segG (σ i) + 1) * 65537) = 0
    unfold onPath
    split <;> rfl
  rw [e0]
  cases hc : c i with
  | none => rfl
  | some st =>
    rw [hc] at hd hin
    obtain ⟨e1, e2, e3, e4, e5⟩ := h.ok i hi st hc
    have hd : st.last ≤ st.first := of_decide_eq_true hd
    have hin : ¬ st.by' = 1 := by simpa [isInC] using hin
    simp only [cov, if_neg hin]
    have : st.first = segG st.s + 1 := by rw [e1]; omega
    rw [this]
    omega
theorem CtInv.exit (h : CtInv A0 σ n c A) {i : Nat} (hi : i < n) (hd : doneC (c i) = true) (hin : isInC (c i) = true) : CtInv A0 σ n (putC c i (some (freshC (σ i) fullB))) A := by
  refine h.put hi (freshC_ok (.inr rfl)) fun k j => ?_
  cases hc : c i with
  | none => rw [hc] at hin; cases hin
  | some st =>
    rw [hc] at hd hin
    obtain ⟨e1, e2, e3, e4, e5⟩ := h.ok i hi st hc
    have hd : st.last ≤ st.first := of_decide_eq_true hd
    have hin : st.by' = 1 := by simpa [isInC] using hin
    have hf : st.first = segG st.s + 1 := by rw [e1]; omega
    have e0 : cov (some (freshC (σ i) fullB)) k j = onPath (σ i) (segG (σ i) + 1) k j ((segG (σ i) + 1) * 65537) := by
      have ez : onPath (σ i) 0 k j ((segG (σ i) + 1) * 65537) = 0 := by
        unfold onPath
        split <;> rfl
      show onPath (σ i) (segG (σ i) + 1) k j ((segG (σ i) + 1) * 65537) - onPath (σ i) 0 k j ((segG (σ i) + 1) * 65537) = _
      rw [ez]
      rfl
    rw [e0]
    simp only [cov, if_pos hin]
    rw [hf, e1, e2]
/-- Nobody is within. -/
theorem CtInv.out (h0 : SegOk 4 A0) (h : CtInv A0 σ n c A) (ho : ∀ j, j < n → doneC (c j) = true ∧ isInC (c j) = false) {k i x : Nat} (hk : k ≠ 0) (hw : A.word k i = some x) : x = 0 := by
  have hz : ∀ m, m ≤ n → sumC c k i m = 0 := fun m => by
    induction m with
    | zero => intro _; rfl
    | succ m ih =>
      intro hm
      simp only [sumC]
      rw [ih (by omega)]
      obtain ⟨hd, hin⟩ := ho m (by omega)
      cases hc : c m with
      | none => rfl
      | some st =>
        rw [hc] at hd hin
        obtain ⟨e1, e2, e3, e4, e5⟩ := h.ok m (by omega) st hc
        have hd : st.last ≤ st.first := of_decide_eq_true hd
        have hin : ¬ st.by' = 1 := by simpa [isInC] using hin
        simp only [cov, if_neg hin]
        have : st.first = segG st.s + 1 := by rw [e1]; omega
        rw [this]
        omega
  rw [h.word, hz n (Nat.le_refl n)] at hw
  cases hA : A0.word k i with
  | none => rw [hA] at hw; cases hw
  | some y =>
    rw [hA] at hw
    simp only [Option.map_some, Nat.add_zero, Option.some.injEq] at hw
    subst hw
    unfold Ar.word at hA
    rw [if_neg hk] at hA
    cases hf : A0.find k with
    | none => rw [hf] at hA; cases hA
    | some b =>
      rw [hf] at hA
      by_cases hm : ∃ g, g < 4 ∧ k = (g + 1) * 65537
      · obtain ⟨g, hg, rfl⟩ := hm
        obtain ⟨v, hv⟩ := h0.blk g hg
        rw [hv] at hf
        simp only [Option.some.injEq] at hf
        subst hf
        simp only [Option.bind_some, List.getElem?_replicate] at hA
        split at hA
        · cases hA; rfl
        · cases hA
      · have := h0.miss k fun g hg e => hm ⟨g, hg, e⟩
        rw [this] at hf
        cases hf
end
end Go.Proofs.Ytnfpkadepomjjaa
