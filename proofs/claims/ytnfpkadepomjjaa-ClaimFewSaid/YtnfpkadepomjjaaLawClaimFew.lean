/- ClaimFew: for all n and all picks the law returns true and turns nothing; condition: the slice is read as numbers of one byte. -/
import Derived.Test.YtnfpkadepomjjaaBaseClm
import Derived.Test.YtnfpkadepomjjaaBaseFew
import Derived.Test.YtnfpkadepomjjaaFirst11
import Derived.Test.YtnfpkadepomjjaaBaseC
import Derived.Test.YtnfpkadepomjjaaBaseArrs
set_option linter.all false
namespace Go.Proofs.Ytnfpkadepomjjaa
open Go Go.RowKit
set_option maxRecDepth 1000000
set_option maxHeartbeats 0
def tblCF : List (Smry Try.prog XM) := [firstS 40 (fun W => by have h := law_trueR first11 W; exact h), newQ.lift, writeQ.lift, faultsQ.lift, tallyC.R.lift, clmNewX, clmStepGX, clmDoneX, clmPlaceX, clmPrivX, rsegS]
def allN : List Nat := (List.range 3000).map (· + 1)
abbrev parM (x : PA) : SO XM := .ext (HO.old (HO.obj [] x))
abbrev clO (n cnt : Nat) (c : Nat → Option Clm) : SO XM := .ext (HO.all [n] 90 cnt cnt c)
abbrev niO (cnt : Nat) (f : Nat → Nat) : SO XM := .ints 3 .i64 cnt cnt (fun j => (f j : Int))
structure F1 (cnt plen : Nat) where
  k : Nat
  x : PA
  c : Nat → Option Clm
  G : Nat
  H : Nat → Nat
  own : Nat → Nat
  a : Nat → Nat → Nat
  mo : Nat → Nat
  tr : Nat → Nat
  hk : k ≤ plen
  hb : FewB cnt c x G H own
  hf : Few cnt (posF c) a
  ha : ∀ i y, i < cnt → c i = some y → mo i = a i 0
  hle : ∀ i, a i 0 ≤ cnt
  ht : ∀ i y, i < cnt → c i = some y → tr i ≤ mayTry y
  hbi : x.births ≤ k
  hsw : x.t.swaps ≤ k
/-- What holds behind a pick, ahead of the look at who is there. -/
structure FM {cnt plen : Nat} (y : F1 cnt plen) where
  x : PA
  c : Nat → Option Clm
  G : Nat
  H : Nat → Nat
  own : Nat → Nat
  mo : Nat → Nat
  tr : Nat → Nat
  hb : FewB cnt c x G H own
  mv : Moves cnt (posF y.c) (posF c)
  ho : ∀ i z, i < cnt → c i = some z → (∀ s, posF y.c i = some s → mo i = y.a i 0) ∧ (posF y.c i = none → mo i = 0)
  ht : ∀ i z, i < cnt → c i = some z → tr i ≤ mayTry z
  hbi : x.births ≤ y.k + 1
  hsw : x.t.swaps ≤ y.k + 1
structure FE {cnt plen : Nat} (y : F1 cnt plen) where
  m : FM y
  mo : Nat → Nat
  hm : ∀ i w, i < cnt → m.c i = some w → mo i = max (m.mo i) (nAt (posF m.c) 0 cnt)
structure F3 {cnt plen : Nat} {y : F1 cnt plen} (m : FM y) (th : Nat) where
  j : Nat
  mo : Nat → Nat
  se : Nat → Nat
  hj : j ≤ cnt
  hm : ∀ i w, i < cnt → m.c i = some w → mo i = if i < j then max (m.mo i) th else m.mo i
  hs : ∀ s, se s ≤ j ∧ (0 < se s → ∃ i w, i < j ∧ m.c i = some w ∧ w.ph = 5 ∧ w.slot = s)
def hF (n cnt : Nat) (x : PA) (c : Nat → Option Clm) (mo tr : Nat → Nat) : List (Nat × SO XM) := [(n, parM x), (n + 1, clO n cnt c), (n + 2, niO cnt mo), (n + 3, niO cnt tr)]
def sF (n cnt : Nat) : List (Nat × SV) := [(5, .c (.ptr n 0)), (8, .c (.sli (n + 1) 1 true 0 false cnt cnt)), (9, .c (.sli (n + 2) 1 true 0 false cnt cnt)), (10, .c (.sli (n + 3) 1 true 0 false cnt cnt))]
def iF1 {cnt plen : Nat} (n : Nat) (y : F1 cnt plen) : List (Nat × SV) × List (Nat × SO XM) := ((48, .c (.int false .i64 (y.k : Int))) :: sF n cnt, hF n cnt y.x y.c y.mo y.tr)
def iFM {cnt plen : Nat} {y : F1 cnt plen} (n : Nat) (m : FM y) : List (Nat × SV) × List (Nat × SO XM) := (sF n cnt, hF n cnt m.x m.c m.mo m.tr)
def iFE {cnt plen : Nat} {y : F1 cnt plen} (n : Nat) (z : FE y) : List (Nat × SV) × List (Nat × SO XM) := (sF n cnt, hF n cnt z.m.x z.m.c z.mo z.m.tr)
def iF2 {cnt plen : Nat} {y : F1 cnt plen} (m : FM y) (n : Nat) (z : {j : Nat // j ≤ cnt}) : List (Nat × SV) × List (Nat × SO XM) := ((149, .c (.int false .i64 (z.1 : Int))) :: (20, .c (.int false .i64 (nAt (posF m.c) 0 z.1 : Nat))) :: sF n cnt, hF n cnt m.x m.c m.mo m.tr)
def iF3 {cnt plen : Nat} {y : F1 cnt plen} (m : FM y) (th n : Nat) (u : F3 m th) : List (Nat × SV) × List (Nat × SO XM) :=
  ((163, .c (.int false .i64 (u.j : Int))) :: (161, .c (.sli (n + 1) 1 true 0 false cnt cnt)) :: (22, .c (.sli (n + 4) 1 true 0 true 300 300)) :: sF n cnt, hF n cnt m.x m.c u.mo m.tr ++ [(n + 4, .ints 3 .i64 300 300 fun s => (u.se s : Int))])
def loopF2 {cnt plen : Nat} {y : F1 cnt plen} (m : FM y) : Scr XM := .inv (liveL [5, 7, 8, 9, 10, 20, 46, 47, 48, 148, 149]) allN {j : Nat // j ≤ cnt} (iF2 m) (fun z => cnt - z.1) fun z => .both
  (.ghost 34 (focusG 8 21) (.ghost 36 (foldG 8) .nil))
  (.ghost 38 (zeroG 22) (.inv (liveL [5, 7, 8, 9, 10, 20, 22, 46, 47, 48, 161, 162, 163]) allN (F3 m (nAt (posF m.c) 0 z.1)) (iF3 m (nAt (posF m.c) 0 z.1)) (fun u => cnt - u.j) fun _ => .both (.ghost 40 (focusG 161 163) (.ghost 48 (foldG 161) .nil)) .nil))
def scrF (cnt plen : Nat) : Scr XM := .both .nil (.ghost 9 (nilsG 8 [5]) (.inv (liveL [5, 7, 8, 9, 10, 46, 47, 48]) allN (F1 cnt plen) iF1 (fun y => plen - y.k) fun y => .both
  (.cut 24 (liveL [5, 7, 8, 9, 10, 46, 47, 48]) allN (FE y) iFE (.ghost 13 (focusG 8 13) (.cut 24 (liveL [5, 7, 8, 9, 10, 46, 47, 48]) allN (FM y) iFM (.ghost 9999 (foldG 8) .nil) loopF2)) fun _ => .nil) .nil))
theorem mod_slot (len : Nat) {v : Int} (h0 : 0 ≤ v) (hl : 0 < len) : ∃ i : Nat, v % (len : Int) = (i : Int) ∧ i < len := by
  have h1 := Int.emod_nonneg v (show (len : Int) ≠ 0 by omega)
  have h2 := Int.emod_lt_of_pos v (show 0 < (len : Int) by omega)
  exact ⟨(v % (len : Int)).toNat, by omega, by omega⟩
theorem done_ph {z : Clm} : clmDone z = true ↔ z.ph = 5 := by
  unfold clmDone
  rw [beq_dec]
  exact decide_eq_true_iff
section
variable {cnt plen : Nat}
theorem F1.slots (y : F1 cnt plen) (h13 : cnt ≤ 13) : ∀ i z, i < cnt → y.c i = some z → z.slot ≤ 12 := fun i z hi hc => by
  have h1 := y.hf.le hi (show posF y.c i = some z.slot by unfold posF; rw [hc]; rfl)
  have h2 := y.hle i
  omega
theorem f1_zero (cnt plen : Nat) : ∃ y : F1 cnt plen, y.k = 0 ∧ y.x = PA.new 60000 ∧ (y.c = fun _ => none) ∧ (∀ i, i < cnt → y.mo i = 0) ∧ ∀ i, i < cnt → y.tr i = 0 :=
  ⟨⟨0, PA.new 60000, fun _ => none, 0, fun _ => 0, fun _ => 0, fun _ _ => 0, fun _ => 0, fun _ => 0, Nat.zero_le _, ⟨SegI.new, fun _ _ _ h => (by cases h), fun _ _ _ _ _ _ h => (by cases h), fun u hu => by simp at hu, Nat.zero_le _, by decide⟩,
    ⟨fun i s _ h => (by cases h), fun i s _ h => (by cases h), fun i s _ h => (by cases h)⟩, fun _ _ _ h => (by cases h), fun _ => Nat.zero_le _, fun _ _ _ h => (by cases h), Nat.zero_le _, Nat.zero_le _⟩, rfl, rfl, rfl, fun _ _ => rfl, fun _ _ => rfl⟩
theorem ho_of (y : F1 cnt plen) {i : Nat} {o : Option Clm} (ho : ∀ z, o = some z → ∃ w, y.c i = some w) {j : Nat} {z : Clm} (hj : j < cnt) (hz : putF y.c i o j = some z) : (∀ s, posF y.c j = some s → y.mo j = y.a j 0) ∧ (posF y.c j = none → y.mo j = 0) := by
  have hw : ∃ w, y.c j = some w := by
    by_cases e : j = i
    · subst e
      rw [putF_self] at hz
      exact ho z hz
    · rw [putF_ne o e] at hz
      exact ⟨z, hz⟩
  obtain ⟨w, hw⟩ := hw
  refine ⟨fun s _ => y.ha j w hj hw, fun h => ?_⟩
  unfold posF at h
  rw [hw] at h
  cases h
theorem F1.come (y : F1 cnt plen) {i : Nat} (hi : i < cnt) (hc : y.c i = none) (o : XP.X) : ∃ m : FM y, m.x = y.x ∧ (m.c = fun j => if j = i then some (clm0 ((i : Int) + 1) o) else y.c j) ∧ (∀ j, j < cnt → m.mo j = if j = i then 0 else y.mo j) ∧ ∀ j, j < cnt → m.tr j = if j = i then 0 else y.tr j := by
  obtain ⟨h1, h2⟩ := y.hb.come hi hc o
  refine ⟨⟨y.x, _, y.G, y.H, y.own, fun j => if j = i then 0 else y.mo j, fun j => if j = i then 0 else y.tr j, h1, h2, fun j z hj hz => ?_, fun j z hj hz => ?_, Nat.le_succ_of_le y.hbi, Nat.le_succ_of_le y.hsw⟩, rfl, rfl, fun _ _ => rfl, fun _ _ => rfl⟩
  · by_cases e : j = i
    · rw [if_pos e]
      refine ⟨fun s h => ?_, fun _ => rfl⟩
      unfold posF at h
      rw [e, hc] at h
      cases h
    · rw [if_neg e]
      rw [putF_ne _ e] at hz
      refine ⟨fun s _ => y.ha j z hj hz, fun h => ?_⟩
      unfold posF at h
      rw [hz] at h
      cases h
  · by_cases e : j = i
    · rw [if_pos e]; exact Nat.zero_le _
    · rw [if_neg e]
      rw [putF_ne _ e] at hz
      exact y.ht j z hj hz
theorem F1.gone (y : F1 cnt plen) {i : Nat} (hi : i < cnt) {z : Clm} (hc : y.c i = some z) (hd : clmDone z = true) : z.got = true ∧ z.slot ≤ 254 ∧ y.x.Has (z.seg : Nat) (5 * (segO z.slot : Nat) : Int) ∧
    ∃ m : FM y, m.x = y.x.writeQ (z.seg : Nat) (5 * (segO z.slot : Nat) : Int) 0 ∧ (m.c = fun j => if j = i then none else y.c j) ∧ (∀ j, j < cnt → m.mo j = y.mo j) ∧ ∀ j, j < cnt → m.tr j = y.tr j := by
  have h5 := done_ph.1 hd
  obtain ⟨g1, g2, ⟨own', g3⟩, g4, g5, g6⟩ := y.hb.gone hi hc h5
  have hg := (y.hb.each i z hi hc).got
  rw [h5] at hg
  refine ⟨hg, g1, g2, ⟨_, _, y.G, y.H, own', y.mo, y.tr, g3, g4, fun j w hj hw => ho_of y (fun z h => by cases h) hj hw, fun j w hj hw => ?_, by rw [g5]; exact Nat.le_succ_of_le y.hbi, by rw [g6]; exact Nat.le_succ_of_le y.hsw⟩, rfl, rfl, fun _ _ => rfl, fun _ _ => rfl⟩
  by_cases e : j = i
  · subst e
    rw [putF_self] at hw
    cases hw
  · rw [putF_ne _ e] at hw
    exact y.ht j w hj hw
theorem step_slot {z : Clm} {A : PA} (h : z.ph ≤ 4) (hs : z.slot ≤ 12) (h5 : (clmStepG z A).ph = 5) : (clmStepG z A).slot = z.slot := by
  obtain ⟨ph, tok, seg, slot, g, priv, got, e⟩ := z
  dsimp only at h hs
  rcases (by omega : ph = 0 ∨ ph = 1 ∨ ph = 2 ∨ ph = 3 ∨ ph = 4) with rfl | rfl | rfl | rfl | rfl
  · rfl
  · rfl
  · simp only [clmStepG]
    split <;> rfl
  · rfl
  · simp only [clmStepG] at h5 ⊢
    by_cases hc : A.rd (seg : Nat) (5 * (segO slot : Nat) : Int) = 0
    · rw [if_pos hc]
    · rw [if_neg hc] at h5
      exfalso
      unfold clmOn at h5
      dsimp only at h5
      rw [if_neg (show ¬ 254 < slot + 1 by omega)] at h5
      split at h5 <;> cases h5
theorem F1.step (y : F1 cnt plen) (h13 : cnt ≤ 13) (h800 : plen ≤ 800) (inv : PA.Inv y.x) {i : Nat} (hi : i < cnt) {z : Clm} (hc : y.c i = some z) (hd : clmDone z = false) :
    clmOkG z y.x ∧ (clmStepG z y.x).ph ≤ 5 ∧ z.ph ≤ 5 ∧ (y.x.t.swaps ≤ 800 ∧ (clmAG z y.x).t.swaps ≤ 801) ∧ ((clmStepG z y.x).got = true → (clmStepG z y.x).slot < y.mo i ∧ y.tr i + 1 ≤ 2 * y.mo i + 8) ∧ y.tr i ≤ 100 ∧ y.mo i ≤ 13 ∧
    (∃ m : FM y, m.x = clmAG z y.x ∧ (m.c = fun j => if j = i then some (clmStepG z y.x) else y.c j) ∧ (∀ j, j < cnt → m.mo j = y.mo j) ∧ ∀ j, j < cnt → m.tr j = y.tr j) ∧
    ((clmStepG z y.x).got = true ∨ (y.x.t.swaps < (clmAG z y.x).t.swaps ∧ (clmStepG z y.x).priv = 0) → ∃ m : FM y, m.x = clmAG z y.x ∧ (m.c = fun j => if j = i then some (clmStepG z y.x) else y.c j) ∧ (∀ j, j < cnt → m.mo j = y.mo j) ∧ ∀ j, j < cnt → m.tr j = if j = i then y.tr i + 1 else y.tr j) := by
  have hne : z.ph ≠ 5 := fun h => by rw [done_ph.2 h] at hd; cases hd
  have hall := y.slots h13
  have hk := y.hk
  have hbi := y.hbi
  have hsw := y.hsw
  obtain ⟨s1, ⟨G', H', own', s2⟩, s3, s4, s5⟩ := y.hb.step inv (by omega) h13 hall hi hc
  obtain ⟨t1, t2, t3, t4⟩ := s5 hne
  have hz := y.hb.each i z hi hc
  have hz' := s2.each i _ hi (putF_self _ _ _)
  have hmo := y.ha i z hi hc
  have hle := y.hle i
  have htr := y.ht i z hi hc
  have hsl := hall i z hi hc
  have hsg := segG_12 hsl
  have hpos := y.hf.le hi (show posF y.c i = some z.slot by unfold posF; rw [hc]; rfl)
  have hgz : z.got = false := by
    have := hz.got
    rw [beq_dec, decide_eq_false hne] at this
    exact this
  have hmt : mayTry z ≤ z.slot + 3 + 1 := by
    unfold mayTry
    rw [hgz]
    simp only [Bool.false_eq_true, if_false]
    split <;> omega
  refine ⟨s1, hz'.ph, hz.ph, ⟨by omega, by omega⟩, fun hgot => ?_, by omega, by omega, ?_, fun hh => ?_⟩
  · have h5 : (clmStepG z y.x).ph = 5 := by
      have := hz'.got
      rw [hgot, beq_dec] at this
      exact of_decide_eq_true this.symm
    have hs5 := step_slot (by have := hz.ph; omega) hsl h5
    rw [hs5]
    omega
  · refine ⟨⟨_, _, G', H', own', y.mo, y.tr, s2, s3, fun j w hj hw => ho_of y (fun _ _ => ⟨z, hc⟩) hj hw, fun j w hj hw => ?_, by omega, by omega⟩, rfl, rfl, fun _ _ => rfl, fun _ _ => rfl⟩
    by_cases e : j = i
    · subst e
      rw [putF_self] at hw
      cases hw
      omega
    · rw [putF_ne _ e] at hw
      exact y.ht j w hj hw
  · have t5 := t4 hh
    refine ⟨⟨_, _, G', H', own', y.mo, fun j => if j = i then y.tr i + 1 else y.tr j, s2, s3, fun j w hj hw => ho_of y (fun _ _ => ⟨z, hc⟩) hj hw, fun j w hj hw => ?_, by omega, by omega⟩, rfl, rfl, fun _ _ => rfl, fun _ _ => rfl⟩
    by_cases e : j = i
    · subst e
      rw [putF_self] at hw
      cases hw
      rw [if_pos rfl]
      omega
    · rw [putF_ne _ e] at hw
      rw [if_neg e]
      exact y.ht j w hj hw
theorem nAt_none {c : Nat → Option Clm} {j : Nat} (h : c j = none) : nAt (posF c) 0 (j + 1) = nAt (posF c) 0 j := by
  simp only [nAt, posF, h]
  rfl
theorem nAt_some {c : Nat → Option Clm} {j : Nat} {z : Clm} (h : c j = some z) : nAt (posF c) 0 (j + 1) = nAt (posF c) 0 j + 1 := by
  simp only [nAt, posF, h]
  rfl
theorem same_none {c : Nat → Option Clm} {j : Nat} (h : c j = none) : c = fun i => if i = j then none else c i := by
  funext i
  by_cases e : i = j
  · rw [if_pos e, e]; exact h
  · rw [if_neg e]
theorem same_some {c : Nat → Option Clm} {j : Nat} {z : Clm} (h : c j = some z) : c = fun i => if i = j then some z else c i := by
  funext i
  by_cases e : i = j
  · rw [if_pos e, e]; exact h
  · rw [if_neg e]
variable {y : F1 cnt plen} {m : FM y} {th : Nat}
theorem F3.zero (m : FM y) (th : Nat) : ∃ u : F3 m th, u.j = 0 ∧ (∀ i, i < cnt → u.mo i = m.mo i) ∧ ∀ i, i < 300 → u.se i = 0 :=
  ⟨⟨0, m.mo, fun _ => 0, Nat.zero_le _, fun i w _ _ => by rw [if_neg (Nat.not_lt_zero i)], fun s => ⟨Nat.le_refl 0, fun h => absurd h (Nat.lt_irrefl 0)⟩⟩, rfl, fun _ _ => rfl, fun _ _ => rfl⟩
theorem F3.none (u : F3 m th) (hj : u.j < cnt) (hc : m.c u.j = none) : ∃ u' : F3 m th, cnt - u'.j < cnt - u.j ∧ (u'.j : Int) = (u.j : Int) + 1 ∧ (∀ i, i < cnt → u'.mo i = u.mo i) ∧ ∀ i, i < 300 → u'.se i = u.se i := by
  refine ⟨⟨u.j + 1, u.mo, u.se, hj, fun i w hi hw => ?_, fun s => ?_⟩, by dsimp only; omega, rfl, fun _ _ => rfl, fun _ _ => rfl⟩
  · rw [u.hm i w hi hw]
    by_cases e : i = u.j
    · rw [e, hc] at hw; cases hw
    · by_cases e2 : i < u.j
      · rw [if_pos e2, if_pos (by omega)]
      · rw [if_neg e2, if_neg (by omega)]
  · obtain ⟨h1, h2⟩ := u.hs s
    refine ⟨by omega, fun h => ?_⟩
    obtain ⟨i, w, h3, h4⟩ := h2 h
    exact ⟨i, w, by omega, h4⟩
theorem F3.hm1 (u : F3 m th) (hj : u.j < cnt) : ∀ i w, i < cnt → m.c i = some w → (if i = u.j then max (u.mo u.j) th else u.mo i) = if i < u.j + 1 then max (m.mo i) th else m.mo i := fun i w hi hw => by
  by_cases e : i = u.j
  · subst e
    rw [if_pos rfl, if_pos (Nat.lt_succ_self _), u.hm _ w hi hw, if_neg (Nat.lt_irrefl _)]
  · rw [if_neg e, u.hm i w hi hw]
    by_cases e2 : i < u.j
    · rw [if_pos e2, if_pos (by omega)]
    · rw [if_neg e2, if_neg (by omega)]
theorem F3.got (u : F3 m th) (h13 : cnt ≤ 13) (hj : u.j < cnt) {w : Clm} (hc : m.c u.j = some w) (hg : w.got = true) (h300 : w.slot < 300) : u.se w.slot = 0 ∧ ∃ u' : F3 m th, cnt - u'.j < cnt - u.j ∧ (u'.j : Int) = (u.j : Int) + 1 ∧ (∀ i, i < cnt → u'.mo i = if i = u.j then max (u.mo u.j) th else u.mo i) ∧
    ∀ i, i < 300 → u'.se i = if i = w.slot then u.se w.slot + 1 else u.se i := by
  have h5 : w.ph = 5 := by
    have := (m.hb.each _ w hj hc).got
    rw [hg, beq_dec] at this
    exact of_decide_eq_true this.symm
  have hz : u.se w.slot = 0 := by
    rcases Nat.eq_zero_or_pos (u.se w.slot) with h | h
    · exact h
    · exfalso
      obtain ⟨i, v, h1, h2, h3, h4⟩ := (u.hs w.slot).2 h
      have := m.hb.own_slot (by omega) hj h2 hc h3 h5 h4
      omega
  refine ⟨hz, ⟨u.j + 1, _, fun i => if i = w.slot then u.se w.slot + 1 else u.se i, hj, u.hm1 hj, fun s => ?_⟩, by dsimp only; omega, rfl, fun _ _ => rfl, fun _ _ => rfl⟩
  by_cases e : s = w.slot
  · rw [if_pos e, hz]
    exact ⟨by omega, fun _ => ⟨u.j, w, Nat.lt_succ_self _, hc, h5, e.symm⟩⟩
  · rw [if_neg e]
    obtain ⟨h1, h2⟩ := u.hs s
    refine ⟨by omega, fun h => ?_⟩
    obtain ⟨i, w, h3, h4⟩ := h2 h
    exact ⟨i, w, by omega, h4⟩
theorem F3.not (u : F3 m th) (hj : u.j < cnt) : ∃ u' : F3 m th, cnt - u'.j < cnt - u.j ∧ (u'.j : Int) = (u.j : Int) + 1 ∧ (∀ i, i < cnt → u'.mo i = if i = u.j then max (u.mo u.j) th else u.mo i) ∧ ∀ i, i < 300 → u'.se i = u.se i := by
  refine ⟨⟨u.j + 1, _, u.se, hj, u.hm1 hj, fun s => ?_⟩, by dsimp only; omega, rfl, fun _ _ => rfl, fun _ _ => rfl⟩
  obtain ⟨h1, h2⟩ := u.hs s
  refine ⟨by omega, fun h => ?_⟩
  obtain ⟨i, w, h3, h4⟩ := h2 h
  exact ⟨i, w, by omega, h4⟩
theorem F3.slot (u : F3 m th) (h13 : cnt ≤ 13) (hj : u.j < cnt) {w : Clm} (hc : m.c u.j = some w) : w.ph ≤ 5 ∧ w.slot ≤ 254 ∧ u.mo u.j ≤ 26 + m.mo u.j + th := by
  have hf := m.hb.each _ w hj hc
  refine ⟨hf.ph, ?_, ?_⟩
  · rcases Nat.lt_or_ge 3 w.ph with h | h
    · exact (m.hb.seg.seg_lt (hf.p4 h).1).2
    · obtain ⟨_, h2, h3⟩ := hf.pg h
      have hg := m.hb.g4
      have h4 : 2 ^ segG w.slot ≤ 2 ^ 4 := Nat.pow_le_pow_right (by omega) (by omega)
      unfold segO at h2
      omega
  · rw [u.hm _ w hj hc]
    split <;> omega
theorem F3.last (u : F3 m (nAt (posF m.c) 0 cnt)) (hj : u.j = cnt) : ∃ z : FE y, z.m.x = m.x ∧ z.m.c = m.c ∧ (∀ i, i < cnt → z.mo i = u.mo i) ∧ ∀ i, i < cnt → z.m.tr i = m.tr i :=
  ⟨⟨m, u.mo, fun i w hi hw => by rw [u.hm i w hi hw, if_pos (by omega)]⟩, rfl, rfl, fun _ _ => rfl, fun _ _ => rfl⟩
theorem FE.next (z : FE y) (hk : y.k < plen) : ∃ y' : F1 cnt plen, plen - y'.k < plen - y.k ∧ (y'.k : Int) = (y.k : Int) + 1 ∧ y'.x = z.m.x ∧ y'.c = z.m.c ∧ (∀ i, i < cnt → y'.mo i = z.mo i) ∧ ∀ i, i < cnt → y'.tr i = z.m.tr i := by
  refine ⟨⟨y.k + 1, z.m.x, z.m.c, z.m.G, z.m.H, z.m.own, nextA cnt (posF y.c) (posF z.m.c) y.a, z.mo, z.m.tr, hk, z.m.hb, y.hf.next z.m.mv, fun i w hi hw => ?_, fun i => ?_, z.m.ht, z.m.hbi, z.m.hsw⟩, by dsimp only; omega, rfl, rfl, rfl, fun _ _ => rfl, fun _ _ => rfl⟩
  · rw [z.hm i w hi hw]
    obtain ⟨h1, h2⟩ := z.m.ho i w hi hw
    unfold nextA
    cases hp : posF y.c i with
    | none =>
      rw [h2 hp]
      simp only
      omega
    | some s =>
      rw [h1 s hp]
      simp only [Nat.zero_le, if_true]
  · have h1 := y.hle i
    have h2 := nAt_le (pos := posF z.m.c) (r := 0) cnt
    unfold nextA
    split
    · split <;> omega
    · exact h2
theorem FM.mo_le (m : FM y) {i : Nat} {w : Clm} (hi : i < cnt) (hw : m.c i = some w) : m.mo i ≤ cnt := by
  obtain ⟨h1, h2⟩ := m.ho i w hi hw
  have := y.hle i
  cases hp : posF y.c i with
  | none => rw [h2 hp]; exact Nat.zero_le _
  | some s => rw [h1 s hp]; exact this
end
/-- What the executor leaves to be shown of roundelay/roundelaylaw11.ClaimFew, written out. -/
theorem claimFew_vc (W : World) (nn : Nat) (pa : Option Addr) (plen pcap : Nat) : (callN Try.prog (tblCF : List (Smry Try.prog XM)) (fun _ _ => false) 100 20 6 [.c (.int false .u8 (nn : Int)), .c (.sliv pa false plen pcap)] ⟨[(0, .seen W)], 1⟩ (scrF (2 + nn % 12) plen) (fun v m _ => retSeen W v m)) = (
    (decide ((↑plen : Int) > (800 : Int)) = true → true = true ∧ some W = some W) ∧ (decide ((↑plen : Int) > (800 : Int)) = false → ((0 : Int) ≤ (60000 : Int) ∧ (60000 : Int) ≤ (60000 :
    Int)) ∧ ((0 : Int) ≤ (↑nn : Int) ∧ (0 : Int) < (12 : Int)) ∧ (2 : Int) + (↑nn : Int) % (12 : Int) = (2 : Int) + (↑nn : Int) % (12 : Int) ∧ (0 : Int) ≤ (2 : Int) + (↑nn : Int) % (12
    : Int) ∧ (8 : Int) * ((2 : Int) + (↑nn : Int) % (12 : Int)) ≤ (281474976710656 : Int) ∧ (2 : Int) + (↑nn : Int) % (12 : Int) ≤ (1000000000 : Int) ∧ ((2 : Int) + (↑nn : Int) % (12 :
    Int) = (2 : Int) + (↑nn : Int) % (12 : Int) ∧ (0 : Int) ≤ (2 : Int) + (↑nn : Int) % (12 : Int) ∧ (8 : Int) * ((2 : Int) + (↑nn : Int) % (12 : Int)) ≤ (281474976710656 : Int) ∧ (2 :
    Int) + (↑nn : Int) % (12 : Int) ≤ (1000000000 : Int) ∧ ((2 : Int) + (↑nn : Int) % (12 : Int) = (2 : Int) + (↑nn : Int) % (12 : Int) ∧ (0 : Int) ≤ (2 : Int) + (↑nn : Int) % (12 :
    Int) ∧ (8 : Int) * ((2 : Int) + (↑nn : Int) % (12 : Int)) ≤ (281474976710656 : Int) ∧ (2 : Int) + (↑nn : Int) % (12 : Int) ≤ (1000000000 : Int) ∧ (∀ (j : Nat), j < ((2 : Int) + (↑nn
    : Int) % (12 : Int)).toNat → [Value.pointer none] = [Value.pointer none]) ∧ (∃ (y : F1 ((2 : Nat) + nn % (12 : Nat)) plen), (2 : Int) + (↑nn : Int) % (12 : Int) = (2 : Int) + (↑nn :
    Int) % (12 : Int) ∧ pa = pa ∧ plen = plen ∧ pcap = pcap ∧ (↑plen : Int) = (↑plen : Int) ∧ W = W ∧ (↑y.k : Int) = (0 : Int) ∧ (0 : Nat) = (0 : Nat) ∧ (2 : Nat) + nn % (12 : Nat) =
    ((2 : Int) + (↑nn : Int) % (12 : Int)).toNat ∧ (2 : Nat) + nn % (12 : Nat) = ((2 : Int) + (↑nn : Int) % (12 : Int)).toNat ∧ (0 : Nat) = (0 : Nat) ∧ (2 : Nat) + nn % (12 : Nat) = ((2
    : Int) + (↑nn : Int) % (12 : Int)).toNat ∧ (2 : Nat) + nn % (12 : Nat) = ((2 : Int) + (↑nn : Int) % (12 : Int)).toNat ∧ (0 : Nat) = (0 : Nat) ∧ (2 : Nat) + nn % (12 : Nat) = ((2 :
    Int) + (↑nn : Int) % (12 : Int)).toNat ∧ (2 : Nat) + nn % (12 : Nat) = ((2 : Int) + (↑nn : Int) % (12 : Int)).toNat ∧ y.x = PA.new (60000 : Nat) ∧ ((2 : Nat) + nn % (12 : Nat) = ((2
    : Int) + (↑nn : Int) % (12 : Int)).toNat ∧ (2 : Nat) + nn % (12 : Nat) = ((2 : Int) + (↑nn : Int) % (12 : Int)).toNat ∧ y.c = fun (x : Nat) => none) ∧ ((2 : Nat) + nn % (12 : Nat) =
    ((2 : Int) + (↑nn : Int) % (12 : Int)).toNat ∧ (2 : Nat) + nn % (12 : Nat) = ((2 : Int) + (↑nn : Int) % (12 : Int)).toNat ∧ ∀ (i : Nat), i < (2 : Nat) + nn % (12 : Nat) → (↑(y.8 i)
    : Int) = (0 : Int)) ∧ ((2 : Nat) + nn % (12 : Nat) = ((2 : Int) + (↑nn : Int) % (12 : Int)).toNat ∧ (2 : Nat) + nn % (12 : Nat) = ((2 : Int) + (↑nn : Int) % (12 : Int)).toNat ∧ ∀ (i
    : Nat), i < (2 : Nat) + nn % (12 : Nat) → (↑(y.9 i) : Int) = (0 : Int)) ∧ True) ∧ ∀ (y : F1 ((2 : Nat) + nn % (12 : Nat)) plen) (ρ : Nat → Value), (decide ((↑y.k : Int) < (↑plen :
    Int)) = true → (((0 : Int) ≤ (↑y.k : Int) ∧ (↑y.k : Int) < (↑plen : Int) ∧ pa.isSome = true) ∧ (∃ (x : Addr), addOpt pa (↑y.k : Int).toNat = some x ∧ W.cell? x = some (Value.int
    IntKind.u8 (seenInt IntKind.u8 W (addOpt pa (↑y.k : Int).toNat)))) ∧ ((0 : Int) ≤ seenInt IntKind.u8 W (addOpt pa (↑y.k : Int).toNat) % ((2 : Int) + (↑nn : Int) % (12 : Int)) ∧
    seenInt IntKind.u8 W (addOpt pa (↑y.k : Int).toNat) % ((2 : Int) + (↑nn : Int) % (12 : Int)) < (↑((2 : Nat) + nn % (12 : Nat)) : Int)) ∧ ∀ (g : Nat → List Value), (y.c (seenInt
    IntKind.u8 W (addOpt pa (↑y.k : Int).toNat) % ((2 : Int) + (↑nn : Int) % (12 : Int))).toNat = none → ((0 : Int) ≤ seenInt IntKind.u8 W (addOpt pa (↑y.k : Int).toNat) % ((2 : Int) +
    (↑nn : Int) % (12 : Int)) ∧ seenInt IntKind.u8 W (addOpt pa (↑y.k : Int).toNat) % ((2 : Int) + (↑nn : Int) % (12 : Int)) < (↑((2 : Nat) + nn % (12 : Nat)) : Int)) ∧ addO true (0 :
    Nat) (seenInt IntKind.u8 W (addOpt pa (↑y.k : Int).toNat) % ((2 : Int) + (↑nn : Int) % (12 : Int))).toNat = (seenInt IntKind.u8 W (addOpt pa (↑y.k : Int).toNat) % ((2 : Int) + (↑nn
    : Int) % (12 : Int))).toNat ∧ ((seenInt IntKind.u8 W (addOpt pa (↑y.k : Int).toNat) % ((2 : Int) + (↑nn : Int) % (12 : Int)) + (1 : Int) - (1 : Int)).NonNeg ∧ ((0 : Int) ≤ seenInt
    IntKind.u8 W (addOpt pa (↑y.k : Int).toNat) % ((2 : Int) + (↑nn : Int) % (12 : Int)) ∧ seenInt IntKind.u8 W (addOpt pa (↑y.k : Int).toNat) % ((2 : Int) + (↑nn : Int) % (12 : Int)) <
    (↑((2 : Nat) + nn % (12 : Nat)) : Int)) ∧ addO true (0 : Nat) (seenInt IntKind.u8 W (addOpt pa (↑y.k : Int).toNat) % ((2 : Int) + (↑nn : Int) % (12 : Int))).toNat = (seenInt
    IntKind.u8 W (addOpt pa (↑y.k : Int).toNat) % ((2 : Int) + (↑nn : Int) % (12 : Int))).toNat ∧ ((0 : Int) ≤ seenInt IntKind.u8 W (addOpt pa (↑y.k : Int).toNat) % ((2 : Int) + (↑nn :
    Int) % (12 : Int)) ∧ seenInt IntKind.u8 W (addOpt pa (↑y.k : Int).toNat) % ((2 : Int) + (↑nn : Int) % (12 : Int)) < (↑((2 : Nat) + nn % (12 : Nat)) : Int)) ∧ addO true (0 : Nat)
    (seenInt IntKind.u8 W (addOpt pa (↑y.k : Int).toNat) % ((2 : Int) + (↑nn : Int) % (12 : Int))).toNat < (2 : Nat) + nn % (12 : Nat) ∧ ((0 : Int) ≤ seenInt IntKind.u8 W (addOpt pa
    (↑y.k : Int).toNat) % ((2 : Int) + (↑nn : Int) % (12 : Int)) ∧ seenInt IntKind.u8 W (addOpt pa (↑y.k : Int).toNat) % ((2 : Int) + (↑nn : Int) % (12 : Int)) < (↑((2 : Nat) + nn % (12
    : Nat)) : Int)) ∧ addO true (0 : Nat) (seenInt IntKind.u8 W (addOpt pa (↑y.k : Int).toNat) % ((2 : Int) + (↑nn : Int) % (12 : Int))).toNat < (2 : Nat) + nn % (12 : Nat) ∧ ((2 : Nat)
    + nn % (12 : Nat) = (2 : Nat) + nn % (12 : Nat) ∧ (seenInt IntKind.u8 W (addOpt pa (↑y.k : Int).toNat) % ((2 : Int) + (↑nn : Int) % (12 : Int))).toNat = (seenInt IntKind.u8 W
    (addOpt pa (↑y.k : Int).toNat) % ((2 : Int) + (↑nn : Int) % (12 : Int))).toNat ∧ g = g) ∧ ∃ (y_1 : FM y), (2 : Int) + (↑nn : Int) % (12 : Int) = (2 : Int) + (↑nn : Int) % (12 : Int)
    ∧ pa = pa ∧ plen = plen ∧ pcap = pcap ∧ (↑plen : Int) = (↑plen : Int) ∧ (↑y.k : Int) = (↑y.k : Int) ∧ W = W ∧ (0 : Nat) = (0 : Nat) ∧ (2 : Nat) + nn % (12 : Nat) = (2 : Nat) + nn %
    (12 : Nat) ∧ (2 : Nat) + nn % (12 : Nat) = (2 : Nat) + nn % (12 : Nat) ∧ (0 : Nat) = (0 : Nat) ∧ (2 : Nat) + nn % (12 : Nat) = (2 : Nat) + nn % (12 : Nat) ∧ (2 : Nat) + nn % (12 :
    Nat) = (2 : Nat) + nn % (12 : Nat) ∧ (0 : Nat) = (0 : Nat) ∧ (2 : Nat) + nn % (12 : Nat) = (2 : Nat) + nn % (12 : Nat) ∧ (2 : Nat) + nn % (12 : Nat) = (2 : Nat) + nn % (12 : Nat) ∧
    y_1.x = y.x ∧ ((2 : Nat) + nn % (12 : Nat) = (2 : Nat) + nn % (12 : Nat) ∧ (2 : Nat) + nn % (12 : Nat) = (2 : Nat) + nn % (12 : Nat) ∧ y_1.c = fun (j : Nat) => if j = (seenInt
    IntKind.u8 W (addOpt pa (↑y.k : Int).toNat) % ((2 : Int) + (↑nn : Int) % (12 : Int))).toNat then some (clm0 (seenInt IntKind.u8 W (addOpt pa (↑y.k : Int).toNat) % ((2 : Int) + (↑nn
    : Int) % (12 : Int)) + (1 : Int)) (HO.obj [] y.x)) else y.c j) ∧ ((2 : Nat) + nn % (12 : Nat) = (2 : Nat) + nn % (12 : Nat) ∧ (2 : Nat) + nn % (12 : Nat) = (2 : Nat) + nn % (12 :
    Nat) ∧ ∀ (i : Nat), i < (2 : Nat) + nn % (12 : Nat) → (↑(y_1.6 i) : Int) = if i = addO true (0 : Nat) (seenInt IntKind.u8 W (addOpt pa (↑y.k : Int).toNat) % ((2 : Int) + (↑nn : Int)
    % (12 : Int))).toNat then (0 : Int) else (↑(y.8 i) : Int)) ∧ ((2 : Nat) + nn % (12 : Nat) = (2 : Nat) + nn % (12 : Nat) ∧ (2 : Nat) + nn % (12 : Nat) = (2 : Nat) + nn % (12 : Nat) ∧
    ∀ (i : Nat), i < (2 : Nat) + nn % (12 : Nat) → (↑(y_1.7 i) : Int) = if i = addO true (0 : Nat) (seenInt IntKind.u8 W (addOpt pa (↑y.k : Int).toNat) % ((2 : Int) + (↑nn : Int) % (12
    : Int))).toNat then (0 : Int) else (↑(y.9 i) : Int)) ∧ True) ∧ ∀ (y_1 : FM y) (ρ : Nat → Value), (∃ (y_2 : { j : Nat // j ≤ (2 : Nat) + nn % (12 : Nat) }), (2 : Int) + (↑nn : Int) %
    (12 : Int) = (2 : Int) + (↑nn : Int) % (12 : Int) ∧ pa = pa ∧ plen = plen ∧ pcap = pcap ∧ (↑plen : Int) = (↑plen : Int) ∧ (↑y.k : Int) = (↑y.k : Int) ∧ (↑((2 : Nat) + nn % (12 :
    Nat)) : Int) = (↑((2 : Nat) + nn % (12 : Nat)) : Int) ∧ W = W ∧ (↑y_2.val : Int) = (0 : Int) ∧ (↑(nAt (posF y_1.c) (0 : Nat) y_2.val) : Int) = (0 : Int) ∧ (0 : Nat) = (0 : Nat) ∧ (2
    : Nat) + nn % (12 : Nat) = (2 : Nat) + nn % (12 : Nat) ∧ (2 : Nat) + nn % (12 : Nat) = (2 : Nat) + nn % (12 : Nat) ∧ (0 : Nat) = (0 : Nat) ∧ (2 : Nat) + nn % (12 : Nat) = (2 : Nat)
    + nn % (12 : Nat) ∧ (2 : Nat) + nn % (12 : Nat) = (2 : Nat) + nn % (12 : Nat) ∧ (0 : Nat) = (0 : Nat) ∧ (2 : Nat) + nn % (12 : Nat) = (2 : Nat) + nn % (12 : Nat) ∧ (2 : Nat) + nn %
    (12 : Nat) = (2 : Nat) + nn % (12 : Nat) ∧ y_1.x = y_1.x ∧ ((2 : Nat) + nn % (12 : Nat) = (2 : Nat) + nn % (12 : Nat) ∧ (2 : Nat) + nn % (12 : Nat) = (2 : Nat) + nn % (12 : Nat) ∧
    y_1.c = y_1.c) ∧ ((2 : Nat) + nn % (12 : Nat) = (2 : Nat) + nn % (12 : Nat) ∧ (2 : Nat) + nn % (12 : Nat) = (2 : Nat) + nn % (12 : Nat) ∧ ∀ (i : Nat), i < (2 : Nat) + nn % (12 :
    Nat) → (↑(y_1.6 i) : Int) = (↑(y_1.6 i) : Int)) ∧ ((2 : Nat) + nn % (12 : Nat) = (2 : Nat) + nn % (12 : Nat) ∧ (2 : Nat) + nn % (12 : Nat) = (2 : Nat) + nn % (12 : Nat) ∧ ∀ (i :
    Nat), i < (2 : Nat) + nn % (12 : Nat) → (↑(y_1.7 i) : Int) = (↑(y_1.7 i) : Int)) ∧ True) ∧ ∀ (y_2 : { j : Nat // j ≤ (2 : Nat) + nn % (12 : Nat) }) (ρ : Nat → Value), (decide
    ((↑y_2.val : Int) < (↑((2 : Nat) + nn % (12 : Nat)) : Int)) = true → ((0 : Int) ≤ (↑y_2.val : Int) ∧ (↑y_2.val : Int) < (↑((2 : Nat) + nn % (12 : Nat)) : Int)) ∧ ∀ (g : Nat → List
    Value), (y_1.c (↑y_2.val : Int).toNat = none → ((0 : Int) ≤ (↑y_2.val : Int) ∧ (↑y_2.val : Int) < (↑((2 : Nat) + nn % (12 : Nat)) : Int)) ∧ addO true (0 : Nat) (↑y_2.val :
    Int).toNat = (↑y_2.val : Int).toNat ∧ ((2 : Nat) + nn % (12 : Nat) = (2 : Nat) + nn % (12 : Nat) ∧ (↑y_2.val : Int).toNat = (↑y_2.val : Int).toNat ∧ g = g) ∧ ((-9223372036854775808
    : Int) ≤ (↑y_2.val : Int) + (1 : Int) ∧ (↑y_2.val : Int) + (1 : Int) ≤ (9223372036854775807 : Int)) ∧ ∃ (y' : { j : Nat // j ≤ (2 : Nat) + nn % (12 : Nat) }), (2 : Nat) + nn % (12 :
    Nat) - y'.val < (2 : Nat) + nn % (12 : Nat) - y_2.val ∧ (2 : Int) + (↑nn : Int) % (12 : Int) = (2 : Int) + (↑nn : Int) % (12 : Int) ∧ pa = pa ∧ plen = plen ∧ pcap = pcap ∧ (↑plen :
    Int) = (↑plen : Int) ∧ (↑y.k : Int) = (↑y.k : Int) ∧ (↑((2 : Nat) + nn % (12 : Nat)) : Int) = (↑((2 : Nat) + nn % (12 : Nat)) : Int) ∧ W = W ∧ (↑y'.val : Int) = (↑y_2.val : Int) +
    (1 : Int) ∧ (↑(nAt (posF y_1.c) (0 : Nat) y'.val) : Int) = (↑(nAt (posF y_1.c) (0 : Nat) y_2.val) : Int) ∧ (0 : Nat) = (0 : Nat) ∧ (2 : Nat) + nn % (12 : Nat) = (2 : Nat) + nn % (12
    : Nat) ∧ (2 : Nat) + nn % (12 : Nat) = (2 : Nat) + nn % (12 : Nat) ∧ (0 : Nat) = (0 : Nat) ∧ (2 : Nat) + nn % (12 : Nat) = (2 : Nat) + nn % (12 : Nat) ∧ (2 : Nat) + nn % (12 : Nat)
    = (2 : Nat) + nn % (12 : Nat) ∧ (0 : Nat) = (0 : Nat) ∧ (2 : Nat) + nn % (12 : Nat) = (2 : Nat) + nn % (12 : Nat) ∧ (2 : Nat) + nn % (12 : Nat) = (2 : Nat) + nn % (12 : Nat) ∧ y_1.x
    = y_1.x ∧ ((2 : Nat) + nn % (12 : Nat) = (2 : Nat) + nn % (12 : Nat) ∧ (2 : Nat) + nn % (12 : Nat) = (2 : Nat) + nn % (12 : Nat) ∧ y_1.c = fun (j : Nat) => if j = (↑y_2.val :
    Int).toNat then none else y_1.c j) ∧ ((2 : Nat) + nn % (12 : Nat) = (2 : Nat) + nn % (12 : Nat) ∧ (2 : Nat) + nn % (12 : Nat) = (2 : Nat) + nn % (12 : Nat) ∧ ∀ (i : Nat), i < (2 :
    Nat) + nn % (12 : Nat) → (↑(y_1.6 i) : Int) = (↑(y_1.6 i) : Int)) ∧ ((2 : Nat) + nn % (12 : Nat) = (2 : Nat) + nn % (12 : Nat) ∧ (2 : Nat) + nn % (12 : Nat) = (2 : Nat) + nn % (12 :
    Nat) ∧ ∀ (i : Nat), i < (2 : Nat) + nn % (12 : Nat) → (↑(y_1.7 i) : Int) = (↑(y_1.7 i) : Int)) ∧ True) ∧ ∀ (y_3 : clmH.X), y_1.c (↑y_2.val : Int).toNat = some y_3 → ((0 : Int) ≤
    (↑y_2.val : Int) ∧ (↑y_2.val : Int) < (↑((2 : Nat) + nn % (12 : Nat)) : Int)) ∧ addO true (0 : Nat) (↑y_2.val : Int).toNat = (↑y_2.val : Int).toNat ∧ ((-9223372036854775808 : Int) ≤
    (↑(nAt (posF y_1.c) (0 : Nat) y_2.val) : Int) + (1 : Int) ∧ (↑(nAt (posF y_1.c) (0 : Nat) y_2.val) : Int) + (1 : Int) ≤ (9223372036854775807 : Int)) ∧ ((2 : Nat) + nn % (12 : Nat) =
    (2 : Nat) + nn % (12 : Nat) ∧ (↑y_2.val : Int).toNat = (↑y_2.val : Int).toNat ∧ g = g) ∧ ((-9223372036854775808 : Int) ≤ (↑y_2.val : Int) + (1 : Int) ∧ (↑y_2.val : Int) + (1 : Int)
    ≤ (9223372036854775807 : Int)) ∧ ∃ (y' : { j : Nat // j ≤ (2 : Nat) + nn % (12 : Nat) }), (2 : Nat) + nn % (12 : Nat) - y'.val < (2 : Nat) + nn % (12 : Nat) - y_2.val ∧ (2 : Int) +
    (↑nn : Int) % (12 : Int) = (2 : Int) + (↑nn : Int) % (12 : Int) ∧ pa = pa ∧ plen = plen ∧ pcap = pcap ∧ (↑plen : Int) = (↑plen : Int) ∧ (↑y.k : Int) = (↑y.k : Int) ∧ (↑((2 : Nat) +
    nn % (12 : Nat)) : Int) = (↑((2 : Nat) + nn % (12 : Nat)) : Int) ∧ W = W ∧ (↑y'.val : Int) = (↑y_2.val : Int) + (1 : Int) ∧ (↑(nAt (posF y_1.c) (0 : Nat) y'.val) : Int) = (↑(nAt
    (posF y_1.c) (0 : Nat) y_2.val) : Int) + (1 : Int) ∧ (0 : Nat) = (0 : Nat) ∧ (2 : Nat) + nn % (12 : Nat) = (2 : Nat) + nn % (12 : Nat) ∧ (2 : Nat) + nn % (12 : Nat) = (2 : Nat) + nn
    % (12 : Nat) ∧ (0 : Nat) = (0 : Nat) ∧ (2 : Nat) + nn % (12 : Nat) = (2 : Nat) + nn % (12 : Nat) ∧ (2 : Nat) + nn % (12 : Nat) = (2 : Nat) + nn % (12 : Nat) ∧ (0 : Nat) = (0 : Nat)
    ∧ (2 : Nat) + nn % (12 : Nat) = (2 : Nat) + nn % (12 : Nat) ∧ (2 : Nat) + nn % (12 : Nat) = (2 : Nat) + nn % (12 : Nat) ∧ y_1.x = y_1.x ∧ ((2 : Nat) + nn % (12 : Nat) = (2 : Nat) +
    nn % (12 : Nat) ∧ (2 : Nat) + nn % (12 : Nat) = (2 : Nat) + nn % (12 : Nat) ∧ y_1.c = fun (j : Nat) => if j = (↑y_2.val : Int).toNat then some y_3 else y_1.c j) ∧ ((2 : Nat) + nn %
    (12 : Nat) = (2 : Nat) + nn % (12 : Nat) ∧ (2 : Nat) + nn % (12 : Nat) = (2 : Nat) + nn % (12 : Nat) ∧ ∀ (i : Nat), i < (2 : Nat) + nn % (12 : Nat) → (↑(y_1.6 i) : Int) = (↑(y_1.6
    i) : Int)) ∧ ((2 : Nat) + nn % (12 : Nat) = (2 : Nat) + nn % (12 : Nat) ∧ (2 : Nat) + nn % (12 : Nat) = (2 : Nat) + nn % (12 : Nat) ∧ ∀ (i : Nat), i < (2 : Nat) + nn % (12 : Nat) →
    (↑(y_1.7 i) : Int) = (↑(y_1.7 i) : Int)) ∧ True) ∧ (decide ((↑y_2.val : Int) < (↑((2 : Nat) + nn % (12 : Nat)) : Int)) = false → (∃ (y_3 : F3 y_1 (nAt (posF y_1.c) (0 : Nat)
    y_2.val)), (2 : Int) + (↑nn : Int) % (12 : Int) = (2 : Int) + (↑nn : Int) % (12 : Int) ∧ (↑(nAt (posF y_1.c) (0 : Nat) y_2.val) : Int) = (↑(nAt (posF y_1.c) (0 : Nat) y_2.val) :
    Int) ∧ pa = pa ∧ plen = plen ∧ pcap = pcap ∧ (↑plen : Int) = (↑plen : Int) ∧ (↑y.k : Int) = (↑y.k : Int) ∧ (↑((2 : Nat) + nn % (12 : Nat)) : Int) = (↑((2 : Nat) + nn % (12 : Nat)) :
    Int) ∧ W = W ∧ (↑y_3.j : Int) = (0 : Int) ∧ (0 : Nat) = (0 : Nat) ∧ (2 : Nat) + nn % (12 : Nat) = (2 : Nat) + nn % (12 : Nat) ∧ (2 : Nat) + nn % (12 : Nat) = (2 : Nat) + nn % (12 :
    Nat) ∧ (0 : Nat) = (0 : Nat) ∧ (300 : Nat) = (300 : Nat) ∧ (0 : Nat) = (0 : Nat) ∧ (2 : Nat) + nn % (12 : Nat) = (2 : Nat) + nn % (12 : Nat) ∧ (2 : Nat) + nn % (12 : Nat) = (2 :
    Nat) + nn % (12 : Nat) ∧ (0 : Nat) = (0 : Nat) ∧ (2 : Nat) + nn % (12 : Nat) = (2 : Nat) + nn % (12 : Nat) ∧ (2 : Nat) + nn % (12 : Nat) = (2 : Nat) + nn % (12 : Nat) ∧ (0 : Nat) =
    (0 : Nat) ∧ (2 : Nat) + nn % (12 : Nat) = (2 : Nat) + nn % (12 : Nat) ∧ (2 : Nat) + nn % (12 : Nat) = (2 : Nat) + nn % (12 : Nat) ∧ y_1.x = y_1.x ∧ ((2 : Nat) + nn % (12 : Nat) = (2
    : Nat) + nn % (12 : Nat) ∧ (2 : Nat) + nn % (12 : Nat) = (2 : Nat) + nn % (12 : Nat) ∧ y_1.c = y_1.c) ∧ ((2 : Nat) + nn % (12 : Nat) = (2 : Nat) + nn % (12 : Nat) ∧ (2 : Nat) + nn %
    (12 : Nat) = (2 : Nat) + nn % (12 : Nat) ∧ ∀ (i : Nat), i < (2 : Nat) + nn % (12 : Nat) → (↑(y_3.2 i) : Int) = (↑(y_1.6 i) : Int)) ∧ ((2 : Nat) + nn % (12 : Nat) = (2 : Nat) + nn %
    (12 : Nat) ∧ (2 : Nat) + nn % (12 : Nat) = (2 : Nat) + nn % (12 : Nat) ∧ ∀ (i : Nat), i < (2 : Nat) + nn % (12 : Nat) → (↑(y_1.7 i) : Int) = (↑(y_1.7 i) : Int)) ∧ ((300 : Nat) =
    (300 : Nat) ∧ (300 : Nat) = (300 : Nat) ∧ ∀ (i : Nat), i < (300 : Nat) → (↑(y_3.3 i) : Int) = (0 : Int)) ∧ True) ∧ ∀ (y_3 : F3 y_1 (nAt (posF y_1.c) (0 : Nat) y_2.val)) (ρ : Nat →
    Value), (decide ((↑y_3.j : Int) < (↑((2 : Nat) + nn % (12 : Nat)) : Int)) = true → ((0 : Int) ≤ (↑y_3.j : Int) ∧ (↑y_3.j : Int) < (↑((2 : Nat) + nn % (12 : Nat)) : Int)) ∧ ∀ (g :
    Nat → List Value), (y_1.c (↑y_3.j : Int).toNat = none → ((0 : Int) ≤ (↑y_3.j : Int) ∧ (↑y_3.j : Int) < (↑((2 : Nat) + nn % (12 : Nat)) : Int)) ∧ addO true (0 : Nat) (↑y_3.j :
    Int).toNat = (↑y_3.j : Int).toNat ∧ ((2 : Nat) + nn % (12 : Nat) = (2 : Nat) + nn % (12 : Nat) ∧ (↑y_3.j : Int).toNat = (↑y_3.j : Int).toNat ∧ g = g) ∧ ((-9223372036854775808 : Int)
    ≤ (↑y_3.j : Int) + (1 : Int) ∧ (↑y_3.j : Int) + (1 : Int) ≤ (9223372036854775807 : Int)) ∧ ∃ (y' : F3 y_1 (nAt (posF y_1.c) (0 : Nat) y_2.val)), (2 : Nat) + nn % (12 : Nat) - y'.j <
    (2 : Nat) + nn % (12 : Nat) - y_3.j ∧ (2 : Int) + (↑nn : Int) % (12 : Int) = (2 : Int) + (↑nn : Int) % (12 : Int) ∧ (↑(nAt (posF y_1.c) (0 : Nat) y_2.val) : Int) = (↑(nAt (posF
    y_1.c) (0 : Nat) y_2.val) : Int) ∧ pa = pa ∧ plen = plen ∧ pcap = pcap ∧ (↑plen : Int) = (↑plen : Int) ∧ (↑y.k : Int) = (↑y.k : Int) ∧ (↑((2 : Nat) + nn % (12 : Nat)) : Int) = (↑((2
    : Nat) + nn % (12 : Nat)) : Int) ∧ W = W ∧ (↑y'.j : Int) = (↑y_3.j : Int) + (1 : Int) ∧ (0 : Nat) = (0 : Nat) ∧ (2 : Nat) + nn % (12 : Nat) = (2 : Nat) + nn % (12 : Nat) ∧ (2 : Nat)
    + nn % (12 : Nat) = (2 : Nat) + nn % (12 : Nat) ∧ (0 : Nat) = (0 : Nat) ∧ (300 : Nat) = (300 : Nat) ∧ (0 : Nat) = (0 : Nat) ∧ (2 : Nat) + nn % (12 : Nat) = (2 : Nat) + nn % (12 :
    Nat) ∧ (2 : Nat) + nn % (12 : Nat) = (2 : Nat) + nn % (12 : Nat) ∧ (0 : Nat) = (0 : Nat) ∧ (2 : Nat) + nn % (12 : Nat) = (2 : Nat) + nn % (12 : Nat) ∧ (2 : Nat) + nn % (12 : Nat) =
    (2 : Nat) + nn % (12 : Nat) ∧ (0 : Nat) = (0 : Nat) ∧ (2 : Nat) + nn % (12 : Nat) = (2 : Nat) + nn % (12 : Nat) ∧ (2 : Nat) + nn % (12 : Nat) = (2 : Nat) + nn % (12 : Nat) ∧ y_1.x =
    y_1.x ∧ ((2 : Nat) + nn % (12 : Nat) = (2 : Nat) + nn % (12 : Nat) ∧ (2 : Nat) + nn % (12 : Nat) = (2 : Nat) + nn % (12 : Nat) ∧ y_1.c = fun (j : Nat) => if j = (↑y_3.j : Int).toNat
    then none else y_1.c j) ∧ ((2 : Nat) + nn % (12 : Nat) = (2 : Nat) + nn % (12 : Nat) ∧ (2 : Nat) + nn % (12 : Nat) = (2 : Nat) + nn % (12 : Nat) ∧ ∀ (i : Nat), i < (2 : Nat) + nn %
    (12 : Nat) → (↑(y'.2 i) : Int) = (↑(y_3.2 i) : Int)) ∧ ((2 : Nat) + nn % (12 : Nat) = (2 : Nat) + nn % (12 : Nat) ∧ (2 : Nat) + nn % (12 : Nat) = (2 : Nat) + nn % (12 : Nat) ∧ ∀ (i
    : Nat), i < (2 : Nat) + nn % (12 : Nat) → (↑(y_1.7 i) : Int) = (↑(y_1.7 i) : Int)) ∧ ((300 : Nat) = (300 : Nat) ∧ (300 : Nat) = (300 : Nat) ∧ ∀ (i : Nat), i < (300 : Nat) → (↑(y'.3
    i) : Int) = (↑(y_3.3 i) : Int)) ∧ True) ∧ ∀ (y_4 : clmH.X), y_1.c (↑y_3.j : Int).toNat = some y_4 → ((0 : Int) ≤ (↑y_3.j : Int) ∧ (↑y_3.j : Int) < (↑((2 : Nat) + nn % (12 : Nat)) :
    Int)) ∧ addO true (0 : Nat) (↑y_3.j : Int).toNat = (↑y_3.j : Int).toNat ∧ ((0 : Int) ≤ (↑y_3.j : Int) ∧ (↑y_3.j : Int) < (↑((2 : Nat) + nn % (12 : Nat)) : Int)) ∧ addO true (0 :
    Nat) (↑y_3.j : Int).toNat < (2 : Nat) + nn % (12 : Nat) ∧ ((0 : Int) ≤ (↑y_3.j : Int) ∧ (↑y_3.j : Int) < (↑((2 : Nat) + nn % (12 : Nat)) : Int)) ∧ addO true (0 : Nat) (↑y_3.j :
    Int).toNat < (2 : Nat) + nn % (12 : Nat) ∧ y_4.ph.le (5 : Nat) ∧ (y_4.got = true → (decide ((↑(if y_4.got = true then y_4.slot else (0 : Nat)) : Int) < (0 : Int)) = true → false =
    true ∧ some W = some W) ∧ (decide ((↑(if y_4.got = true then y_4.slot else (0 : Nat)) : Int) < (0 : Int)) = false → (decide ((↑(if y_4.got = true then y_4.slot else (0 : Nat)) :
    Int) ≥ (300 : Int)) = true → false = true ∧ some W = some W) ∧ (decide ((↑(if y_4.got = true then y_4.slot else (0 : Nat)) : Int) ≥ (300 : Int)) = false → ((0 : Int) ≤ (↑(if y_4.got
    = true then y_4.slot else (0 : Nat)) : Int) ∧ (↑(if y_4.got = true then y_4.slot else (0 : Nat)) : Int) < (300 : Int)) ∧ addO true (0 : Nat) (↑(if y_4.got = true then y_4.slot else
    (0 : Nat)) : Int).toNat < (300 : Nat) ∧ (decide ((↑(y_3.3 (addO true (0 : Nat) (↑(if y_4.got = true then y_4.slot else (0 : Nat)) : Int).toNat)) : Int) > (0 : Int)) = true → false =
    true ∧ some W = some W) ∧ (decide ((↑(y_3.3 (addO true (0 : Nat) (↑(if y_4.got = true then y_4.slot else (0 : Nat)) : Int).toNat)) : Int) > (0 : Int)) = false → ((0 : Int) ≤ (↑(if
    y_4.got = true then y_4.slot else (0 : Nat)) : Int) ∧ (↑(if y_4.got = true then y_4.slot else (0 : Nat)) : Int) < (300 : Int)) ∧ addO true (0 : Nat) (↑(if y_4.got = true then
    y_4.slot else (0 : Nat)) : Int).toNat < (300 : Nat) ∧ ((-9223372036854775808 : Int) ≤ (↑(y_3.3 (addO true (0 : Nat) (↑(if y_4.got = true then y_4.slot else (0 : Nat)) : Int).toNat))
    : Int) + (1 : Int) ∧ (↑(y_3.3 (addO true (0 : Nat) (↑(if y_4.got = true then y_4.slot else (0 : Nat)) : Int).toNat)) : Int) + (1 : Int) ≤ (9223372036854775807 : Int)) ∧ ((0 : Int) ≤
    (↑(if y_4.got = true then y_4.slot else (0 : Nat)) : Int) ∧ (↑(if y_4.got = true then y_4.slot else (0 : Nat)) : Int) < (300 : Int)) ∧ addO true (0 : Nat) (↑(if y_4.got = true then
    y_4.slot else (0 : Nat)) : Int).toNat < (300 : Nat) ∧ ((2 : Nat) + nn % (12 : Nat) = (2 : Nat) + nn % (12 : Nat) ∧ (↑y_3.j : Int).toNat = (↑y_3.j : Int).toNat ∧ g = g) ∧
    ((-9223372036854775808 : Int) ≤ (↑y_3.j : Int) + (1 : Int) ∧ (↑y_3.j : Int) + (1 : Int) ≤ (9223372036854775807 : Int)) ∧ ∃ (y' : F3 y_1 (nAt (posF y_1.c) (0 : Nat) y_2.val)), (2 :
    Nat) + nn % (12 : Nat) - y'.j < (2 : Nat) + nn % (12 : Nat) - y_3.j ∧ (2 : Int) + (↑nn : Int) % (12 : Int) = (2 : Int) + (↑nn : Int) % (12 : Int) ∧ (↑(nAt (posF y_1.c) (0 : Nat)
    y_2.val) : Int) = (↑(nAt (posF y_1.c) (0 : Nat) y_2.val) : Int) ∧ pa = pa ∧ plen = plen ∧ pcap = pcap ∧ (↑plen : Int) = (↑plen : Int) ∧ (↑y.k : Int) = (↑y.k : Int) ∧ (↑((2 : Nat) +
    nn % (12 : Nat)) : Int) = (↑((2 : Nat) + nn % (12 : Nat)) : Int) ∧ W = W ∧ (↑y'.j : Int) = (↑y_3.j : Int) + (1 : Int) ∧ (0 : Nat) = (0 : Nat) ∧ (2 : Nat) + nn % (12 : Nat) = (2 :
    Nat) + nn % (12 : Nat) ∧ (2 : Nat) + nn % (12 : Nat) = (2 : Nat) + nn % (12 : Nat) ∧ (0 : Nat) = (0 : Nat) ∧ (300 : Nat) = (300 : Nat) ∧ (0 : Nat) = (0 : Nat) ∧ (2 : Nat) + nn % (12
    : Nat) = (2 : Nat) + nn % (12 : Nat) ∧ (2 : Nat) + nn % (12 : Nat) = (2 : Nat) + nn % (12 : Nat) ∧ (0 : Nat) = (0 : Nat) ∧ (2 : Nat) + nn % (12 : Nat) = (2 : Nat) + nn % (12 : Nat)
    ∧ (2 : Nat) + nn % (12 : Nat) = (2 : Nat) + nn % (12 : Nat) ∧ (0 : Nat) = (0 : Nat) ∧ (2 : Nat) + nn % (12 : Nat) = (2 : Nat) + nn % (12 : Nat) ∧ (2 : Nat) + nn % (12 : Nat) = (2 :
    Nat) + nn % (12 : Nat) ∧ y_1.x = y_1.x ∧ ((2 : Nat) + nn % (12 : Nat) = (2 : Nat) + nn % (12 : Nat) ∧ (2 : Nat) + nn % (12 : Nat) = (2 : Nat) + nn % (12 : Nat) ∧ y_1.c = fun (j :
    Nat) => if j = (↑y_3.j : Int).toNat then some y_4 else y_1.c j) ∧ ((2 : Nat) + nn % (12 : Nat) = (2 : Nat) + nn % (12 : Nat) ∧ (2 : Nat) + nn % (12 : Nat) = (2 : Nat) + nn % (12 :
    Nat) ∧ ∀ (i : Nat), i < (2 : Nat) + nn % (12 : Nat) → (↑(y'.2 i) : Int) = if i = addO true (0 : Nat) (↑y_3.j : Int).toNat then max (↑(y_3.2 (addO true (0 : Nat) (↑y_3.j :
    Int).toNat)) : Int) (↑(nAt (posF y_1.c) (0 : Nat) y_2.val) : Int) else (↑(y_3.2 i) : Int)) ∧ ((2 : Nat) + nn % (12 : Nat) = (2 : Nat) + nn % (12 : Nat) ∧ (2 : Nat) + nn % (12 : Nat)
    = (2 : Nat) + nn % (12 : Nat) ∧ ∀ (i : Nat), i < (2 : Nat) + nn % (12 : Nat) → (↑(y_1.7 i) : Int) = (↑(y_1.7 i) : Int)) ∧ ((300 : Nat) = (300 : Nat) ∧ (300 : Nat) = (300 : Nat) ∧ ∀
    (i : Nat), i < (300 : Nat) → (↑(y'.3 i) : Int) = if i = addO true (0 : Nat) (↑(if y_4.got = true then y_4.slot else (0 : Nat)) : Int).toNat then (↑(y_3.3 (addO true (0 : Nat) (↑(if
    y_4.got = true then y_4.slot else (0 : Nat)) : Int).toNat)) : Int) + (1 : Int) else (↑(y_3.3 i) : Int)) ∧ True)))) ∧ (y_4.got = false → ((2 : Nat) + nn % (12 : Nat) = (2 : Nat) + nn
    % (12 : Nat) ∧ (↑y_3.j : Int).toNat = (↑y_3.j : Int).toNat ∧ g = g) ∧ ((-9223372036854775808 : Int) ≤ (↑y_3.j : Int) + (1 : Int) ∧ (↑y_3.j : Int) + (1 : Int) ≤ (9223372036854775807
    : Int)) ∧ ∃ (y' : F3 y_1 (nAt (posF y_1.c) (0 : Nat) y_2.val)), (2 : Nat) + nn % (12 : Nat) - y'.j < (2 : Nat) + nn % (12 : Nat) - y_3.j ∧ (2 : Int) + (↑nn : Int) % (12 : Int) = (2
    : Int) + (↑nn : Int) % (12 : Int) ∧ (↑(nAt (posF y_1.c) (0 : Nat) y_2.val) : Int) = (↑(nAt (posF y_1.c) (0 : Nat) y_2.val) : Int) ∧ pa = pa ∧ plen = plen ∧ pcap = pcap ∧ (↑plen :
    Int) = (↑plen : Int) ∧ (↑y.k : Int) = (↑y.k : Int) ∧ (↑((2 : Nat) + nn % (12 : Nat)) : Int) = (↑((2 : Nat) + nn % (12 : Nat)) : Int) ∧ W = W ∧ (↑y'.j : Int) = (↑y_3.j : Int) + (1 :
    Int) ∧ (0 : Nat) = (0 : Nat) ∧ (2 : Nat) + nn % (12 : Nat) = (2 : Nat) + nn % (12 : Nat) ∧ (2 : Nat) + nn % (12 : Nat) = (2 : Nat) + nn % (12 : Nat) ∧ (0 : Nat) = (0 : Nat) ∧ (300 :
    Nat) = (300 : Nat) ∧ (0 : Nat) = (0 : Nat) ∧ (2 : Nat) + nn % (12 : Nat) = (2 : Nat) + nn % (12 : Nat) ∧ (2 : Nat) + nn % (12 : Nat) = (2 : Nat) + nn % (12 : Nat) ∧ (0 : Nat) = (0 :
    Nat) ∧ (2 : Nat) + nn % (12 : Nat) = (2 : Nat) + nn % (12 : Nat) ∧ (2 : Nat) + nn % (12 : Nat) = (2 : Nat) + nn % (12 : Nat) ∧ (0 : Nat) = (0 : Nat) ∧ (2 : Nat) + nn % (12 : Nat) =
    (2 : Nat) + nn % (12 : Nat) ∧ (2 : Nat) + nn % (12 : Nat) = (2 : Nat) + nn % (12 : Nat) ∧ y_1.x = y_1.x ∧ ((2 : Nat) + nn % (12 : Nat) = (2 : Nat) + nn % (12 : Nat) ∧ (2 : Nat) + nn
    % (12 : Nat) = (2 : Nat) + nn % (12 : Nat) ∧ y_1.c = fun (j : Nat) => if j = (↑y_3.j : Int).toNat then some y_4 else y_1.c j) ∧ ((2 : Nat) + nn % (12 : Nat) = (2 : Nat) + nn % (12 :
    Nat) ∧ (2 : Nat) + nn % (12 : Nat) = (2 : Nat) + nn % (12 : Nat) ∧ ∀ (i : Nat), i < (2 : Nat) + nn % (12 : Nat) → (↑(y'.2 i) : Int) = if i = addO true (0 : Nat) (↑y_3.j : Int).toNat
    then max (↑(y_3.2 (addO true (0 : Nat) (↑y_3.j : Int).toNat)) : Int) (↑(nAt (posF y_1.c) (0 : Nat) y_2.val) : Int) else (↑(y_3.2 i) : Int)) ∧ ((2 : Nat) + nn % (12 : Nat) = (2 :
    Nat) + nn % (12 : Nat) ∧ (2 : Nat) + nn % (12 : Nat) = (2 : Nat) + nn % (12 : Nat) ∧ ∀ (i : Nat), i < (2 : Nat) + nn % (12 : Nat) → (↑(y_1.7 i) : Int) = (↑(y_1.7 i) : Int)) ∧ ((300
    : Nat) = (300 : Nat) ∧ (300 : Nat) = (300 : Nat) ∧ ∀ (i : Nat), i < (300 : Nat) → (↑(y'.3 i) : Int) = (↑(y_3.3 i) : Int)) ∧ True)) ∧ (decide ((↑y_3.j : Int) < (↑((2 : Nat) + nn %
    (12 : Nat)) : Int)) = false → ∃ (y_4 : FE y), (2 : Int) + (↑nn : Int) % (12 : Int) = (2 : Int) + (↑nn : Int) % (12 : Int) ∧ pa = pa ∧ plen = plen ∧ pcap = pcap ∧ (↑plen : Int) =
    (↑plen : Int) ∧ (↑y.k : Int) = (↑y.k : Int) ∧ W = W ∧ (0 : Nat) = (0 : Nat) ∧ (2 : Nat) + nn % (12 : Nat) = (2 : Nat) + nn % (12 : Nat) ∧ (2 : Nat) + nn % (12 : Nat) = (2 : Nat) +
    nn % (12 : Nat) ∧ (0 : Nat) = (0 : Nat) ∧ (2 : Nat) + nn % (12 : Nat) = (2 : Nat) + nn % (12 : Nat) ∧ (2 : Nat) + nn % (12 : Nat) = (2 : Nat) + nn % (12 : Nat) ∧ (0 : Nat) = (0 :
    Nat) ∧ (2 : Nat) + nn % (12 : Nat) = (2 : Nat) + nn % (12 : Nat) ∧ (2 : Nat) + nn % (12 : Nat) = (2 : Nat) + nn % (12 : Nat) ∧ y_4.m.x = y_1.x ∧ ((2 : Nat) + nn % (12 : Nat) = (2 :
    Nat) + nn % (12 : Nat) ∧ (2 : Nat) + nn % (12 : Nat) = (2 : Nat) + nn % (12 : Nat) ∧ y_4.m.c = y_1.c) ∧ ((2 : Nat) + nn % (12 : Nat) = (2 : Nat) + nn % (12 : Nat) ∧ (2 : Nat) + nn %
    (12 : Nat) = (2 : Nat) + nn % (12 : Nat) ∧ ∀ (i : Nat), i < (2 : Nat) + nn % (12 : Nat) → (↑(y_4.2 i) : Int) = (↑(y_3.2 i) : Int)) ∧ ((2 : Nat) + nn % (12 : Nat) = (2 : Nat) + nn %
    (12 : Nat) ∧ (2 : Nat) + nn % (12 : Nat) = (2 : Nat) + nn % (12 : Nat) ∧ ∀ (i : Nat), i < (2 : Nat) + nn % (12 : Nat) → (↑(y_4.m.7 i) : Int) = (↑(y_1.7 i) : Int)) ∧ True))) ∧ ∀ (y_1
    : clmH.X), y.c (seenInt IntKind.u8 W (addOpt pa (↑y.k : Int).toNat) % ((2 : Int) + (↑nn : Int) % (12 : Int))).toNat = some y_1 → ((0 : Int) ≤ seenInt IntKind.u8 W (addOpt pa (↑y.k :
    Int).toNat) % ((2 : Int) + (↑nn : Int) % (12 : Int)) ∧ seenInt IntKind.u8 W (addOpt pa (↑y.k : Int).toNat) % ((2 : Int) + (↑nn : Int) % (12 : Int)) < (↑((2 : Nat) + nn % (12 : Nat))
    : Int)) ∧ addO true (0 : Nat) (seenInt IntKind.u8 W (addOpt pa (↑y.k : Int).toNat) % ((2 : Int) + (↑nn : Int) % (12 : Int))).toNat = (seenInt IntKind.u8 W (addOpt pa (↑y.k :
    Int).toNat) % ((2 : Int) + (↑nn : Int) % (12 : Int))).toNat ∧ (y_1.ph.le (5 : Nat) ∧ (clmDone y_1 = true → y_1.ph.le (5 : Nat) ∧ ((!y_1.got) = true → false = true ∧ some W = some W)
    ∧ ((!y_1.got) = false → ((0 : Int) ≤ (↑(if y_1.got = true then y_1.slot else (0 : Nat)) : Int) ∧ (↑(if y_1.got = true then y_1.slot else (0 : Nat)) : Int) ≤ (254 : Int)) ∧
    ((-9223372036854775808 : Int) ≤ (5 : Int) * (↑(segO (↑(if y_1.got = true then y_1.slot else (0 : Nat)) : Int).toNat) : Int) ∧ (5 : Int) * (↑(segO (↑(if y_1.got = true then y_1.slot
    else (0 : Nat)) : Int).toNat) : Int) ≤ (9223372036854775807 : Int)) ∧ ((-9223372036854775808 : Int) ≤ (5 : Int) * (↑(segO (↑(if y_1.got = true then y_1.slot else (0 : Nat)) :
    Int).toNat) : Int) + (0 : Int) ∧ (5 : Int) * (↑(segO (↑(if y_1.got = true then y_1.slot else (0 : Nat)) : Int).toNat) : Int) + (0 : Int) ≤ (9223372036854775807 : Int)) ∧ y.x.Has
    (↑(if y_1.got = true then y_1.seg else (0 : Nat)) : Int) ((5 : Int) * (↑(segO (↑(if y_1.got = true then y_1.slot else (0 : Nat)) : Int).toNat) : Int) + (0 : Int)) ∧ ((0 : Int) ≤ (0
    : Int) ∧ (0 : Int) < (18446744073709551616 : Int)) ∧ ((0 : Int) ≤ seenInt IntKind.u8 W (addOpt pa (↑y.k : Int).toNat) % ((2 : Int) + (↑nn : Int) % (12 : Int)) ∧ seenInt IntKind.u8 W
    (addOpt pa (↑y.k : Int).toNat) % ((2 : Int) + (↑nn : Int) % (12 : Int)) < (↑((2 : Nat) + nn % (12 : Nat)) : Int)) ∧ addO true (0 : Nat) (seenInt IntKind.u8 W (addOpt pa (↑y.k :
    Int).toNat) % ((2 : Int) + (↑nn : Int) % (12 : Int))).toNat = (seenInt IntKind.u8 W (addOpt pa (↑y.k : Int).toNat) % ((2 : Int) + (↑nn : Int) % (12 : Int))).toNat ∧ ((2 : Nat) + nn
    % (12 : Nat) = (2 : Nat) + nn % (12 : Nat) ∧ (seenInt IntKind.u8 W (addOpt pa (↑y.k : Int).toNat) % ((2 : Int) + (↑nn : Int) % (12 : Int))).toNat = (seenInt IntKind.u8 W (addOpt pa
    (↑y.k : Int).toNat) % ((2 : Int) + (↑nn : Int) % (12 : Int))).toNat ∧ g = g) ∧ ∃ (y_2 : FM y), (2 : Int) + (↑nn : Int) % (12 : Int) = (2 : Int) + (↑nn : Int) % (12 : Int) ∧ pa = pa
    ∧ plen = plen ∧ pcap = pcap ∧ (↑plen : Int) = (↑plen : Int) ∧ (↑y.k : Int) = (↑y.k : Int) ∧ W = W ∧ (0 : Nat) = (0 : Nat) ∧ (2 : Nat) + nn % (12 : Nat) = (2 : Nat) + nn % (12 : Nat)
    ∧ (2 : Nat) + nn % (12 : Nat) = (2 : Nat) + nn % (12 : Nat) ∧ (0 : Nat) = (0 : Nat) ∧ (2 : Nat) + nn % (12 : Nat) = (2 : Nat) + nn % (12 : Nat) ∧ (2 : Nat) + nn % (12 : Nat) = (2 :
    Nat) + nn % (12 : Nat) ∧ (0 : Nat) = (0 : Nat) ∧ (2 : Nat) + nn % (12 : Nat) = (2 : Nat) + nn % (12 : Nat) ∧ (2 : Nat) + nn % (12 : Nat) = (2 : Nat) + nn % (12 : Nat) ∧ y_2.x =
    y.x.writeQ (↑(if y_1.got = true then y_1.seg else (0 : Nat)) : Int) ((5 : Int) * (↑(segO (↑(if y_1.got = true then y_1.slot else (0 : Nat)) : Int).toNat) : Int) + (0 : Int)) (0 :
    Int) ∧ ((2 : Nat) + nn % (12 : Nat) = (2 : Nat) + nn % (12 : Nat) ∧ (2 : Nat) + nn % (12 : Nat) = (2 : Nat) + nn % (12 : Nat) ∧ y_2.c = fun (j : Nat) => if j = (seenInt IntKind.u8 W
    (addOpt pa (↑y.k : Int).toNat) % ((2 : Int) + (↑nn : Int) % (12 : Int))).toNat then none else y.c j) ∧ ((2 : Nat) + nn % (12 : Nat) = (2 : Nat) + nn % (12 : Nat) ∧ (2 : Nat) + nn %
    (12 : Nat) = (2 : Nat) + nn % (12 : Nat) ∧ ∀ (i : Nat), i < (2 : Nat) + nn % (12 : Nat) → (↑(y_2.6 i) : Int) = (↑(y.8 i) : Int)) ∧ ((2 : Nat) + nn % (12 : Nat) = (2 : Nat) + nn %
    (12 : Nat) ∧ (2 : Nat) + nn % (12 : Nat) = (2 : Nat) + nn % (12 : Nat) ∧ ∀ (i : Nat), i < (2 : Nat) + nn % (12 : Nat) → (↑(y_2.7 i) : Int) = (↑(y.9 i) : Int)) ∧ True)) ∧ (clmDone
    y_1 = false → True ∧ ((∃ (z : Nat → Value), ArInv (y.x.ar z)) → (clmOkG y_1 y.x ∧ y_1.ph ≤ (5 : Nat)) ∧ (clmXGF y_1 (HO.obj [] y.x)).ph.le (5 : Nat) ∧ ((clmXGF y_1 (HO.obj []
    y.x)).got = true → ((0 : Int) ≤ seenInt IntKind.u8 W (addOpt pa (↑y.k : Int).toNat) % ((2 : Int) + (↑nn : Int) % (12 : Int)) ∧ seenInt IntKind.u8 W (addOpt pa (↑y.k : Int).toNat) %
    ((2 : Int) + (↑nn : Int) % (12 : Int)) < (↑((2 : Nat) + nn % (12 : Nat)) : Int)) ∧ addO true (0 : Nat) (seenInt IntKind.u8 W (addOpt pa (↑y.k : Int).toNat) % ((2 : Int) + (↑nn :
    Int) % (12 : Int))).toNat < (2 : Nat) + nn % (12 : Nat) ∧ ((-9223372036854775808 : Int) ≤ (↑(y.9 (addO true (0 : Nat) (seenInt IntKind.u8 W (addOpt pa (↑y.k : Int).toNat) % ((2 :
    Int) + (↑nn : Int) % (12 : Int))).toNat)) : Int) + (1 : Int) ∧ (↑(y.9 (addO true (0 : Nat) (seenInt IntKind.u8 W (addOpt pa (↑y.k : Int).toNat) % ((2 : Int) + (↑nn : Int) % (12 :
    Int))).toNat)) : Int) + (1 : Int) ≤ (9223372036854775807 : Int)) ∧ ((0 : Int) ≤ seenInt IntKind.u8 W (addOpt pa (↑y.k : Int).toNat) % ((2 : Int) + (↑nn : Int) % (12 : Int)) ∧
    seenInt IntKind.u8 W (addOpt pa (↑y.k : Int).toNat) % ((2 : Int) + (↑nn : Int) % (12 : Int)) < (↑((2 : Nat) + nn % (12 : Nat)) : Int)) ∧ addO true (0 : Nat) (seenInt IntKind.u8 W
    (addOpt pa (↑y.k : Int).toNat) % ((2 : Int) + (↑nn : Int) % (12 : Int))).toNat < (2 : Nat) + nn % (12 : Nat) ∧ ((clmXGF y_1 (HO.obj [] y.x)).got = true → ((0 : Int) ≤ seenInt
    IntKind.u8 W (addOpt pa (↑y.k : Int).toNat) % ((2 : Int) + (↑nn : Int) % (12 : Int)) ∧ seenInt IntKind.u8 W (addOpt pa (↑y.k : Int).toNat) % ((2 : Int) + (↑nn : Int) % (12 : Int)) <
    (↑((2 : Nat) + nn % (12 : Nat)) : Int)) ∧ addO true (0 : Nat) (seenInt IntKind.u8 W (addOpt pa (↑y.k : Int).toNat) % ((2 : Int) + (↑nn : Int) % (12 : Int))).toNat < (2 : Nat) + nn %
    (12 : Nat) ∧ (decide ((↑(if (clmXGF y_1 (HO.obj [] y.x)).got = true then (clmXGF y_1 (HO.obj [] y.x)).slot else (0 : Nat)) : Int) ≥ (↑(y.8 (addO true (0 : Nat) (seenInt IntKind.u8 W
    (addOpt pa (↑y.k : Int).toNat) % ((2 : Int) + (↑nn : Int) % (12 : Int))).toNat)) : Int)) = true → false = true ∧ some W = some W) ∧ (decide ((↑(if (clmXGF y_1 (HO.obj [] y.x)).got =
    true then (clmXGF y_1 (HO.obj [] y.x)).slot else (0 : Nat)) : Int) ≥ (↑(y.8 (addO true (0 : Nat) (seenInt IntKind.u8 W (addOpt pa (↑y.k : Int).toNat) % ((2 : Int) + (↑nn : Int) %
    (12 : Int))).toNat)) : Int)) = false → ((0 : Int) ≤ seenInt IntKind.u8 W (addOpt pa (↑y.k : Int).toNat) % ((2 : Int) + (↑nn : Int) % (12 : Int)) ∧ seenInt IntKind.u8 W (addOpt pa
    (↑y.k : Int).toNat) % ((2 : Int) + (↑nn : Int) % (12 : Int)) < (↑((2 : Nat) + nn % (12 : Nat)) : Int)) ∧ addO true (0 : Nat) (seenInt IntKind.u8 W (addOpt pa (↑y.k : Int).toNat) %
    ((2 : Int) + (↑nn : Int) % (12 : Int))).toNat < (2 : Nat) + nn % (12 : Nat) ∧ ((0 : Int) ≤ seenInt IntKind.u8 W (addOpt pa (↑y.k : Int).toNat) % ((2 : Int) + (↑nn : Int) % (12 :
    Int)) ∧ seenInt IntKind.u8 W (addOpt pa (↑y.k : Int).toNat) % ((2 : Int) + (↑nn : Int) % (12 : Int)) < (↑((2 : Nat) + nn % (12 : Nat)) : Int)) ∧ addO true (0 : Nat) (seenInt
    IntKind.u8 W (addOpt pa (↑y.k : Int).toNat) % ((2 : Int) + (↑nn : Int) % (12 : Int))).toNat < (2 : Nat) + nn % (12 : Nat) ∧ ((-9223372036854775808 : Int) ≤ (2 : Int) * (↑(y.8 (addO
    true (0 : Nat) (seenInt IntKind.u8 W (addOpt pa (↑y.k : Int).toNat) % ((2 : Int) + (↑nn : Int) % (12 : Int))).toNat)) : Int) ∧ (2 : Int) * (↑(y.8 (addO true (0 : Nat) (seenInt
    IntKind.u8 W (addOpt pa (↑y.k : Int).toNat) % ((2 : Int) + (↑nn : Int) % (12 : Int))).toNat)) : Int) ≤ (9223372036854775807 : Int)) ∧ ((-9223372036854775808 : Int) ≤ (2 : Int) *
    (↑(y.8 (addO true (0 : Nat) (seenInt IntKind.u8 W (addOpt pa (↑y.k : Int).toNat) % ((2 : Int) + (↑nn : Int) % (12 : Int))).toNat)) : Int) + (8 : Int) ∧ (2 : Int) * (↑(y.8 (addO true
    (0 : Nat) (seenInt IntKind.u8 W (addOpt pa (↑y.k : Int).toNat) % ((2 : Int) + (↑nn : Int) % (12 : Int))).toNat)) : Int) + (8 : Int) ≤ (9223372036854775807 : Int)) ∧ (decide ((if
    addO true (0 : Nat) (seenInt IntKind.u8 W (addOpt pa (↑y.k : Int).toNat) % ((2 : Int) + (↑nn : Int) % (12 : Int))).toNat = addO true (0 : Nat) (seenInt IntKind.u8 W (addOpt pa (↑y.k
    : Int).toNat) % ((2 : Int) + (↑nn : Int) % (12 : Int))).toNat then (↑(y.9 (addO true (0 : Nat) (seenInt IntKind.u8 W (addOpt pa (↑y.k : Int).toNat) % ((2 : Int) + (↑nn : Int) % (12
    : Int))).toNat)) : Int) + (1 : Int) else (↑(y.9 (addO true (0 : Nat) (seenInt IntKind.u8 W (addOpt pa (↑y.k : Int).toNat) % ((2 : Int) + (↑nn : Int) % (12 : Int))).toNat)) : Int)) >
    (2 : Int) * (↑(y.8 (addO true (0 : Nat) (seenInt IntKind.u8 W (addOpt pa (↑y.k : Int).toNat) % ((2 : Int) + (↑nn : Int) % (12 : Int))).toNat)) : Int) + (8 : Int)) = true → false =
    true ∧ some W = some W) ∧ (decide ((if addO true (0 : Nat) (seenInt IntKind.u8 W (addOpt pa (↑y.k : Int).toNat) % ((2 : Int) + (↑nn : Int) % (12 : Int))).toNat = addO true (0 : Nat)
    (seenInt IntKind.u8 W (addOpt pa (↑y.k : Int).toNat) % ((2 : Int) + (↑nn : Int) % (12 : Int))).toNat then (↑(y.9 (addO true (0 : Nat) (seenInt IntKind.u8 W (addOpt pa (↑y.k :
    Int).toNat) % ((2 : Int) + (↑nn : Int) % (12 : Int))).toNat)) : Int) + (1 : Int) else (↑(y.9 (addO true (0 : Nat) (seenInt IntKind.u8 W (addOpt pa (↑y.k : Int).toNat) % ((2 : Int) +
    (↑nn : Int) % (12 : Int))).toNat)) : Int)) > (2 : Int) * (↑(y.8 (addO true (0 : Nat) (seenInt IntKind.u8 W (addOpt pa (↑y.k : Int).toNat) % ((2 : Int) + (↑nn : Int) % (12 :
    Int))).toNat)) : Int) + (8 : Int)) = false → ((2 : Nat) + nn % (12 : Nat) = (2 : Nat) + nn % (12 : Nat) ∧ (seenInt IntKind.u8 W (addOpt pa (↑y.k : Int).toNat) % ((2 : Int) + (↑nn :
    Int) % (12 : Int))).toNat = (seenInt IntKind.u8 W (addOpt pa (↑y.k : Int).toNat) % ((2 : Int) + (↑nn : Int) % (12 : Int))).toNat ∧ g = g) ∧ ∃ (y_2 : FM y), (2 : Int) + (↑nn : Int) %
    (12 : Int) = (2 : Int) + (↑nn : Int) % (12 : Int) ∧ pa = pa ∧ plen = plen ∧ pcap = pcap ∧ (↑plen : Int) = (↑plen : Int) ∧ (↑y.k : Int) = (↑y.k : Int) ∧ W = W ∧ (0 : Nat) = (0 : Nat)
    ∧ (2 : Nat) + nn % (12 : Nat) = (2 : Nat) + nn % (12 : Nat) ∧ (2 : Nat) + nn % (12 : Nat) = (2 : Nat) + nn % (12 : Nat) ∧ (0 : Nat) = (0 : Nat) ∧ (2 : Nat) + nn % (12 : Nat) = (2 :
    Nat) + nn % (12 : Nat) ∧ (2 : Nat) + nn % (12 : Nat) = (2 : Nat) + nn % (12 : Nat) ∧ (0 : Nat) = (0 : Nat) ∧ (2 : Nat) + nn % (12 : Nat) = (2 : Nat) + nn % (12 : Nat) ∧ (2 : Nat) +
    nn % (12 : Nat) = (2 : Nat) + nn % (12 : Nat) ∧ y_2.x = clmAG y_1 y.x ∧ ((2 : Nat) + nn % (12 : Nat) = (2 : Nat) + nn % (12 : Nat) ∧ (2 : Nat) + nn % (12 : Nat) = (2 : Nat) + nn %
    (12 : Nat) ∧ y_2.c = fun (j : Nat) => if j = (seenInt IntKind.u8 W (addOpt pa (↑y.k : Int).toNat) % ((2 : Int) + (↑nn : Int) % (12 : Int))).toNat then some (clmXGF y_1 (HO.obj []
    y.x)) else y.c j) ∧ ((2 : Nat) + nn % (12 : Nat) = (2 : Nat) + nn % (12 : Nat) ∧ (2 : Nat) + nn % (12 : Nat) = (2 : Nat) + nn % (12 : Nat) ∧ ∀ (i : Nat), i < (2 : Nat) + nn % (12 :
    Nat) → (↑(y_2.6 i) : Int) = (↑(y.8 i) : Int)) ∧ ((2 : Nat) + nn % (12 : Nat) = (2 : Nat) + nn % (12 : Nat) ∧ (2 : Nat) + nn % (12 : Nat) = (2 : Nat) + nn % (12 : Nat) ∧ ∀ (i : Nat),
    i < (2 : Nat) + nn % (12 : Nat) → (↑(y_2.7 i) : Int) = if i = addO true (0 : Nat) (seenInt IntKind.u8 W (addOpt pa (↑y.k : Int).toNat) % ((2 : Int) + (↑nn : Int) % (12 :
    Int))).toNat then (↑(y.9 (addO true (0 : Nat) (seenInt IntKind.u8 W (addOpt pa (↑y.k : Int).toNat) % ((2 : Int) + (↑nn : Int) % (12 : Int))).toNat)) : Int) + (1 : Int) else (↑(y.9
    i) : Int)) ∧ True))) ∧ ((clmXGF y_1 (HO.obj [] y.x)).got = false → ((2 : Nat) + nn % (12 : Nat) = (2 : Nat) + nn % (12 : Nat) ∧ (seenInt IntKind.u8 W (addOpt pa (↑y.k : Int).toNat)
    % ((2 : Int) + (↑nn : Int) % (12 : Int))).toNat = (seenInt IntKind.u8 W (addOpt pa (↑y.k : Int).toNat) % ((2 : Int) + (↑nn : Int) % (12 : Int))).toNat ∧ g = g) ∧ ∃ (y_2 : FM y), (2
    : Int) + (↑nn : Int) % (12 : Int) = (2 : Int) + (↑nn : Int) % (12 : Int) ∧ pa = pa ∧ plen = plen ∧ pcap = pcap ∧ (↑plen : Int) = (↑plen : Int) ∧ (↑y.k : Int) = (↑y.k : Int) ∧ W = W
    ∧ (0 : Nat) = (0 : Nat) ∧ (2 : Nat) + nn % (12 : Nat) = (2 : Nat) + nn % (12 : Nat) ∧ (2 : Nat) + nn % (12 : Nat) = (2 : Nat) + nn % (12 : Nat) ∧ (0 : Nat) = (0 : Nat) ∧ (2 : Nat) +
    nn % (12 : Nat) = (2 : Nat) + nn % (12 : Nat) ∧ (2 : Nat) + nn % (12 : Nat) = (2 : Nat) + nn % (12 : Nat) ∧ (0 : Nat) = (0 : Nat) ∧ (2 : Nat) + nn % (12 : Nat) = (2 : Nat) + nn %
    (12 : Nat) ∧ (2 : Nat) + nn % (12 : Nat) = (2 : Nat) + nn % (12 : Nat) ∧ y_2.x = clmAG y_1 y.x ∧ ((2 : Nat) + nn % (12 : Nat) = (2 : Nat) + nn % (12 : Nat) ∧ (2 : Nat) + nn % (12 :
    Nat) = (2 : Nat) + nn % (12 : Nat) ∧ y_2.c = fun (j : Nat) => if j = (seenInt IntKind.u8 W (addOpt pa (↑y.k : Int).toNat) % ((2 : Int) + (↑nn : Int) % (12 : Int))).toNat then some
    (clmXGF y_1 (HO.obj [] y.x)) else y.c j) ∧ ((2 : Nat) + nn % (12 : Nat) = (2 : Nat) + nn % (12 : Nat) ∧ (2 : Nat) + nn % (12 : Nat) = (2 : Nat) + nn % (12 : Nat) ∧ ∀ (i : Nat), i <
    (2 : Nat) + nn % (12 : Nat) → (↑(y_2.6 i) : Int) = (↑(y.8 i) : Int)) ∧ ((2 : Nat) + nn % (12 : Nat) = (2 : Nat) + nn % (12 : Nat) ∧ (2 : Nat) + nn % (12 : Nat) = (2 : Nat) + nn %
    (12 : Nat) ∧ ∀ (i : Nat), i < (2 : Nat) + nn % (12 : Nat) → (↑(y_2.7 i) : Int) = if i = addO true (0 : Nat) (seenInt IntKind.u8 W (addOpt pa (↑y.k : Int).toNat) % ((2 : Int) + (↑nn
    : Int) % (12 : Int))).toNat then (↑(y.9 (addO true (0 : Nat) (seenInt IntKind.u8 W (addOpt pa (↑y.k : Int).toNat) % ((2 : Int) + (↑nn : Int) % (12 : Int))).toNat)) : Int) + (1 :
    Int) else (↑(y.9 i) : Int)) ∧ True)) ∧ ((clmXGF y_1 (HO.obj [] y.x)).got = false → (True ∧ ((∃ (z : Nat → Value), ArInv ((clmAG y_1 y.x).ar z)) → W = W ∧ tlyZ y.x.t (0 : Nat) = tlyZ
    y.x.t (0 : Nat) ∧ tlyZ y.x.t (1 : Nat) = tlyZ y.x.t (1 : Nat) ∧ tlyZ y.x.t (2 : Nat) = tlyZ y.x.t (2 : Nat) ∧ tlyZ y.x.t (3 : Nat) = tlyZ y.x.t (3 : Nat) ∧ tlyZ y.x.t (4 : Nat) =
    tlyZ y.x.t (4 : Nat) ∧ tlyZ y.x.t (5 : Nat) = tlyZ y.x.t (5 : Nat) ∧ (decide (tlyZ (clmAG y_1 y.x).t (4 : Nat) > tlyZ y.x.t (4 : Nat)) = true → ((clmXGF y_1 (HO.obj [] y.x)).ph ≤ (5
    : Nat) ∧ ((clmXGF y_1 (HO.obj [] y.x)).priv = (0 : Nat) → ((0 : Int) ≤ seenInt IntKind.u8 W (addOpt pa (↑y.k : Int).toNat) % ((2 : Int) + (↑nn : Int) % (12 : Int)) ∧ seenInt
    IntKind.u8 W (addOpt pa (↑y.k : Int).toNat) % ((2 : Int) + (↑nn : Int) % (12 : Int)) < (↑((2 : Nat) + nn % (12 : Nat)) : Int)) ∧ addO true (0 : Nat) (seenInt IntKind.u8 W (addOpt pa
    (↑y.k : Int).toNat) % ((2 : Int) + (↑nn : Int) % (12 : Int))).toNat < (2 : Nat) + nn % (12 : Nat) ∧ ((-9223372036854775808 : Int) ≤ (↑(y.9 (addO true (0 : Nat) (seenInt IntKind.u8 W
    (addOpt pa (↑y.k : Int).toNat) % ((2 : Int) + (↑nn : Int) % (12 : Int))).toNat)) : Int) + (1 : Int) ∧ (↑(y.9 (addO true (0 : Nat) (seenInt IntKind.u8 W (addOpt pa (↑y.k :
    Int).toNat) % ((2 : Int) + (↑nn : Int) % (12 : Int))).toNat)) : Int) + (1 : Int) ≤ (9223372036854775807 : Int)) ∧ ((0 : Int) ≤ seenInt IntKind.u8 W (addOpt pa (↑y.k : Int).toNat) %
    ((2 : Int) + (↑nn : Int) % (12 : Int)) ∧ seenInt IntKind.u8 W (addOpt pa (↑y.k : Int).toNat) % ((2 : Int) + (↑nn : Int) % (12 : Int)) < (↑((2 : Nat) + nn % (12 : Nat)) : Int)) ∧
    addO true (0 : Nat) (seenInt IntKind.u8 W (addOpt pa (↑y.k : Int).toNat) % ((2 : Int) + (↑nn : Int) % (12 : Int))).toNat < (2 : Nat) + nn % (12 : Nat) ∧ ((clmXGF y_1 (HO.obj []
    y.x)).got = true → ((0 : Int) ≤ seenInt IntKind.u8 W (addOpt pa (↑y.k : Int).toNat) % ((2 : Int) + (↑nn : Int) % (12 : Int)) ∧ seenInt IntKind.u8 W (addOpt pa (↑y.k : Int).toNat) %
    ((2 : Int) + (↑nn : Int) % (12 : Int)) < (↑((2 : Nat) + nn % (12 : Nat)) : Int)) ∧ addO true (0 : Nat) (seenInt IntKind.u8 W (addOpt pa (↑y.k : Int).toNat) % ((2 : Int) + (↑nn :
    Int) % (12 : Int))).toNat < (2 : Nat) + nn % (12 : Nat) ∧ (decide ((↑(if (clmXGF y_1 (HO.obj [] y.x)).got = true then (clmXGF y_1 (HO.obj [] y.x)).slot else (0 : Nat)) : Int) ≥
    (↑(y.8 (addO true (0 : Nat) (seenInt IntKind.u8 W (addOpt pa (↑y.k : Int).toNat) % ((2 : Int) + (↑nn : Int) % (12 : Int))).toNat)) : Int)) = true → false = true ∧ some W = some W) ∧
    (decide ((↑(if (clmXGF y_1 (HO.obj [] y.x)).got = true then (clmXGF y_1 (HO.obj [] y.x)).slot else (0 : Nat)) : Int) ≥ (↑(y.8 (addO true (0 : Nat) (seenInt IntKind.u8 W (addOpt pa
    (↑y.k : Int).toNat) % ((2 : Int) + (↑nn : Int) % (12 : Int))).toNat)) : Int)) = false → ((0 : Int) ≤ seenInt IntKind.u8 W (addOpt pa (↑y.k : Int).toNat) % ((2 : Int) + (↑nn : Int) %
    (12 : Int)) ∧ seenInt IntKind.u8 W (addOpt pa (↑y.k : Int).toNat) % ((2 : Int) + (↑nn : Int) % (12 : Int)) < (↑((2 : Nat) + nn % (12 : Nat)) : Int)) ∧ addO true (0 : Nat) (seenInt
    IntKind.u8 W (addOpt pa (↑y.k : Int).toNat) % ((2 : Int) + (↑nn : Int) % (12 : Int))).toNat < (2 : Nat) + nn % (12 : Nat) ∧ ((0 : Int) ≤ seenInt IntKind.u8 W (addOpt pa (↑y.k :
    Int).toNat) % ((2 : Int) + (↑nn : Int) % (12 : Int)) ∧ seenInt IntKind.u8 W (addOpt pa (↑y.k : Int).toNat) % ((2 : Int) + (↑nn : Int) % (12 : Int)) < (↑((2 : Nat) + nn % (12 : Nat))
    : Int)) ∧ addO true (0 : Nat) (seenInt IntKind.u8 W (addOpt pa (↑y.k : Int).toNat) % ((2 : Int) + (↑nn : Int) % (12 : Int))).toNat < (2 : Nat) + nn % (12 : Nat) ∧
    ((-9223372036854775808 : Int) ≤ (2 : Int) * (↑(y.8 (addO true (0 : Nat) (seenInt IntKind.u8 W (addOpt pa (↑y.k : Int).toNat) % ((2 : Int) + (↑nn : Int) % (12 : Int))).toNat)) : Int)
    ∧ (2 : Int) * (↑(y.8 (addO true (0 : Nat) (seenInt IntKind.u8 W (addOpt pa (↑y.k : Int).toNat) % ((2 : Int) + (↑nn : Int) % (12 : Int))).toNat)) : Int) ≤ (9223372036854775807 :
    Int)) ∧ ((-9223372036854775808 : Int) ≤ (2 : Int) * (↑(y.8 (addO true (0 : Nat) (seenInt IntKind.u8 W (addOpt pa (↑y.k : Int).toNat) % ((2 : Int) + (↑nn : Int) % (12 :
    Int))).toNat)) : Int) + (8 : Int) ∧ (2 : Int) * (↑(y.8 (addO true (0 : Nat) (seenInt IntKind.u8 W (addOpt pa (↑y.k : Int).toNat) % ((2 : Int) + (↑nn : Int) % (12 : Int))).toNat)) :
    Int) + (8 : Int) ≤ (9223372036854775807 : Int)) ∧ (decide ((if addO true (0 : Nat) (seenInt IntKind.u8 W (addOpt pa (↑y.k : Int).toNat) % ((2 : Int) + (↑nn : Int) % (12 :
    Int))).toNat = addO true (0 : Nat) (seenInt IntKind.u8 W (addOpt pa (↑y.k : Int).toNat) % ((2 : Int) + (↑nn : Int) % (12 : Int))).toNat then (↑(y.9 (addO true (0 : Nat) (seenInt
    IntKind.u8 W (addOpt pa (↑y.k : Int).toNat) % ((2 : Int) + (↑nn : Int) % (12 : Int))).toNat)) : Int) + (1 : Int) else (↑(y.9 (addO true (0 : Nat) (seenInt IntKind.u8 W (addOpt pa
    (↑y.k : Int).toNat) % ((2 : Int) + (↑nn : Int) % (12 : Int))).toNat)) : Int)) > (2 : Int) * (↑(y.8 (addO true (0 : Nat) (seenInt IntKind.u8 W (addOpt pa (↑y.k : Int).toNat) % ((2 :
    Int) + (↑nn : Int) % (12 : Int))).toNat)) : Int) + (8 : Int)) = true → false = true ∧ some W = some W) ∧ (decide ((if addO true (0 : Nat) (seenInt IntKind.u8 W (addOpt pa (↑y.k :
    Int).toNat) % ((2 : Int) + (↑nn : Int) % (12 : Int))).toNat = addO true (0 : Nat) (seenInt IntKind.u8 W (addOpt pa (↑y.k : Int).toNat) % ((2 : Int) + (↑nn : Int) % (12 :
    Int))).toNat then (↑(y.9 (addO true (0 : Nat) (seenInt IntKind.u8 W (addOpt pa (↑y.k : Int).toNat) % ((2 : Int) + (↑nn : Int) % (12 : Int))).toNat)) : Int) + (1 : Int) else (↑(y.9
    (addO true (0 : Nat) (seenInt IntKind.u8 W (addOpt pa (↑y.k : Int).toNat) % ((2 : Int) + (↑nn : Int) % (12 : Int))).toNat)) : Int)) > (2 : Int) * (↑(y.8 (addO true (0 : Nat)
    (seenInt IntKind.u8 W (addOpt pa (↑y.k : Int).toNat) % ((2 : Int) + (↑nn : Int) % (12 : Int))).toNat)) : Int) + (8 : Int)) = false → ((2 : Nat) + nn % (12 : Nat) = (2 : Nat) + nn %
    (12 : Nat) ∧ (seenInt IntKind.u8 W (addOpt pa (↑y.k : Int).toNat) % ((2 : Int) + (↑nn : Int) % (12 : Int))).toNat = (seenInt IntKind.u8 W (addOpt pa (↑y.k : Int).toNat) % ((2 : Int)
    + (↑nn : Int) % (12 : Int))).toNat ∧ g = g) ∧ ∃ (y_2 : FM y), (2 : Int) + (↑nn : Int) % (12 : Int) = (2 : Int) + (↑nn : Int) % (12 : Int) ∧ pa = pa ∧ plen = plen ∧ pcap = pcap ∧
    (↑plen : Int) = (↑plen : Int) ∧ (↑y.k : Int) = (↑y.k : Int) ∧ W = W ∧ (0 : Nat) = (0 : Nat) ∧ (2 : Nat) + nn % (12 : Nat) = (2 : Nat) + nn % (12 : Nat) ∧ (2 : Nat) + nn % (12 : Nat)
    = (2 : Nat) + nn % (12 : Nat) ∧ (0 : Nat) = (0 : Nat) ∧ (2 : Nat) + nn % (12 : Nat) = (2 : Nat) + nn % (12 : Nat) ∧ (2 : Nat) + nn % (12 : Nat) = (2 : Nat) + nn % (12 : Nat) ∧ (0 :
    Nat) = (0 : Nat) ∧ (2 : Nat) + nn % (12 : Nat) = (2 : Nat) + nn % (12 : Nat) ∧ (2 : Nat) + nn % (12 : Nat) = (2 : Nat) + nn % (12 : Nat) ∧ y_2.x = clmAG y_1 y.x ∧ ((2 : Nat) + nn %
    (12 : Nat) = (2 : Nat) + nn % (12 : Nat) ∧ (2 : Nat) + nn % (12 : Nat) = (2 : Nat) + nn % (12 : Nat) ∧ y_2.c = fun (j : Nat) => if j = (seenInt IntKind.u8 W (addOpt pa (↑y.k :
    Int).toNat) % ((2 : Int) + (↑nn : Int) % (12 : Int))).toNat then some (clmXGF y_1 (HO.obj [] y.x)) else y.c j) ∧ ((2 : Nat) + nn % (12 : Nat) = (2 : Nat) + nn % (12 : Nat) ∧ (2 :
    Nat) + nn % (12 : Nat) = (2 : Nat) + nn % (12 : Nat) ∧ ∀ (i : Nat), i < (2 : Nat) + nn % (12 : Nat) → (↑(y_2.6 i) : Int) = (↑(y.8 i) : Int)) ∧ ((2 : Nat) + nn % (12 : Nat) = (2 :
    Nat) + nn % (12 : Nat) ∧ (2 : Nat) + nn % (12 : Nat) = (2 : Nat) + nn % (12 : Nat) ∧ ∀ (i : Nat), i < (2 : Nat) + nn % (12 : Nat) → (↑(y_2.7 i) : Int) = if i = addO true (0 : Nat)
    (seenInt IntKind.u8 W (addOpt pa (↑y.k : Int).toNat) % ((2 : Int) + (↑nn : Int) % (12 : Int))).toNat then (↑(y.9 (addO true (0 : Nat) (seenInt IntKind.u8 W (addOpt pa (↑y.k :
    Int).toNat) % ((2 : Int) + (↑nn : Int) % (12 : Int))).toNat)) : Int) + (1 : Int) else (↑(y.9 i) : Int)) ∧ True))) ∧ ((clmXGF y_1 (HO.obj [] y.x)).got = false → ((2 : Nat) + nn % (12
    : Nat) = (2 : Nat) + nn % (12 : Nat) ∧ (seenInt IntKind.u8 W (addOpt pa (↑y.k : Int).toNat) % ((2 : Int) + (↑nn : Int) % (12 : Int))).toNat = (seenInt IntKind.u8 W (addOpt pa (↑y.k
    : Int).toNat) % ((2 : Int) + (↑nn : Int) % (12 : Int))).toNat ∧ g = g) ∧ ∃ (y_2 : FM y), (2 : Int) + (↑nn : Int) % (12 : Int) = (2 : Int) + (↑nn : Int) % (12 : Int) ∧ pa = pa ∧ plen
    = plen ∧ pcap = pcap ∧ (↑plen : Int) = (↑plen : Int) ∧ (↑y.k : Int) = (↑y.k : Int) ∧ W = W ∧ (0 : Nat) = (0 : Nat) ∧ (2 : Nat) + nn % (12 : Nat) = (2 : Nat) + nn % (12 : Nat) ∧ (2 :
    Nat) + nn % (12 : Nat) = (2 : Nat) + nn % (12 : Nat) ∧ (0 : Nat) = (0 : Nat) ∧ (2 : Nat) + nn % (12 : Nat) = (2 : Nat) + nn % (12 : Nat) ∧ (2 : Nat) + nn % (12 : Nat) = (2 : Nat) +
    nn % (12 : Nat) ∧ (0 : Nat) = (0 : Nat) ∧ (2 : Nat) + nn % (12 : Nat) = (2 : Nat) + nn % (12 : Nat) ∧ (2 : Nat) + nn % (12 : Nat) = (2 : Nat) + nn % (12 : Nat) ∧ y_2.x = clmAG y_1
    y.x ∧ ((2 : Nat) + nn % (12 : Nat) = (2 : Nat) + nn % (12 : Nat) ∧ (2 : Nat) + nn % (12 : Nat) = (2 : Nat) + nn % (12 : Nat) ∧ y_2.c = fun (j : Nat) => if j = (seenInt IntKind.u8 W
    (addOpt pa (↑y.k : Int).toNat) % ((2 : Int) + (↑nn : Int) % (12 : Int))).toNat then some (clmXGF y_1 (HO.obj [] y.x)) else y.c j) ∧ ((2 : Nat) + nn % (12 : Nat) = (2 : Nat) + nn %
    (12 : Nat) ∧ (2 : Nat) + nn % (12 : Nat) = (2 : Nat) + nn % (12 : Nat) ∧ ∀ (i : Nat), i < (2 : Nat) + nn % (12 : Nat) → (↑(y_2.6 i) : Int) = (↑(y.8 i) : Int)) ∧ ((2 : Nat) + nn %
    (12 : Nat) = (2 : Nat) + nn % (12 : Nat) ∧ (2 : Nat) + nn % (12 : Nat) = (2 : Nat) + nn % (12 : Nat) ∧ ∀ (i : Nat), i < (2 : Nat) + nn % (12 : Nat) → (↑(y_2.7 i) : Int) = if i =
    addO true (0 : Nat) (seenInt IntKind.u8 W (addOpt pa (↑y.k : Int).toNat) % ((2 : Int) + (↑nn : Int) % (12 : Int))).toNat then (↑(y.9 (addO true (0 : Nat) (seenInt IntKind.u8 W
    (addOpt pa (↑y.k : Int).toNat) % ((2 : Int) + (↑nn : Int) % (12 : Int))).toNat)) : Int) + (1 : Int) else (↑(y.9 i) : Int)) ∧ True)) ∧ ((clmXGF y_1 (HO.obj [] y.x)).priv ≠ (0 : Nat)
    → ∀ (a : Option Addr), (false = true → ((0 : Int) ≤ seenInt IntKind.u8 W (addOpt pa (↑y.k : Int).toNat) % ((2 : Int) + (↑nn : Int) % (12 : Int)) ∧ seenInt IntKind.u8 W (addOpt pa
    (↑y.k : Int).toNat) % ((2 : Int) + (↑nn : Int) % (12 : Int)) < (↑((2 : Nat) + nn % (12 : Nat)) : Int)) ∧ addO true (0 : Nat) (seenInt IntKind.u8 W (addOpt pa (↑y.k : Int).toNat) %
    ((2 : Int) + (↑nn : Int) % (12 : Int))).toNat < (2 : Nat) + nn % (12 : Nat) ∧ ((-9223372036854775808 : Int) ≤ (↑(y.9 (addO true (0 : Nat) (seenInt IntKind.u8 W (addOpt pa (↑y.k :
    Int).toNat) % ((2 : Int) + (↑nn : Int) % (12 : Int))).toNat)) : Int) + (1 : Int) ∧ (↑(y.9 (addO true (0 : Nat) (seenInt IntKind.u8 W (addOpt pa (↑y.k : Int).toNat) % ((2 : Int) +
    (↑nn : Int) % (12 : Int))).toNat)) : Int) + (1 : Int) ≤ (9223372036854775807 : Int)) ∧ ((0 : Int) ≤ seenInt IntKind.u8 W (addOpt pa (↑y.k : Int).toNat) % ((2 : Int) + (↑nn : Int) %
    (12 : Int)) ∧ seenInt IntKind.u8 W (addOpt pa (↑y.k : Int).toNat) % ((2 : Int) + (↑nn : Int) % (12 : Int)) < (↑((2 : Nat) + nn % (12 : Nat)) : Int)) ∧ addO true (0 : Nat) (seenInt
    IntKind.u8 W (addOpt pa (↑y.k : Int).toNat) % ((2 : Int) + (↑nn : Int) % (12 : Int))).toNat < (2 : Nat) + nn % (12 : Nat) ∧ ((clmXGF y_1 (HO.obj [] y.x)).got = true → ((0 : Int) ≤
    seenInt IntKind.u8 W (addOpt pa (↑y.k : Int).toNat) % ((2 : Int) + (↑nn : Int) % (12 : Int)) ∧ seenInt IntKind.u8 W (addOpt pa (↑y.k : Int).toNat) % ((2 : Int) + (↑nn : Int) % (12 :
    Int)) < (↑((2 : Nat) + nn % (12 : Nat)) : Int)) ∧ addO true (0 : Nat) (seenInt IntKind.u8 W (addOpt pa (↑y.k : Int).toNat) % ((2 : Int) + (↑nn : Int) % (12 : Int))).toNat < (2 :
    Nat) + nn % (12 : Nat) ∧ (decide ((↑(if (clmXGF y_1 (HO.obj [] y.x)).got = true then (clmXGF y_1 (HO.obj [] y.x)).slot else (0 : Nat)) : Int) ≥ (↑(y.8 (addO true (0 : Nat) (seenInt
    IntKind.u8 W (addOpt pa (↑y.k : Int).toNat) % ((2 : Int) + (↑nn : Int) % (12 : Int))).toNat)) : Int)) = true → false = true ∧ some W = some W) ∧ (decide ((↑(if (clmXGF y_1 (HO.obj
    [] y.x)).got = true then (clmXGF y_1 (HO.obj [] y.x)).slot else (0 : Nat)) : Int) ≥ (↑(y.8 (addO true (0 : Nat) (seenInt IntKind.u8 W (addOpt pa (↑y.k : Int).toNat) % ((2 : Int) +
    (↑nn : Int) % (12 : Int))).toNat)) : Int)) = false → ((0 : Int) ≤ seenInt IntKind.u8 W (addOpt pa (↑y.k : Int).toNat) % ((2 : Int) + (↑nn : Int) % (12 : Int)) ∧ seenInt IntKind.u8 W
    (addOpt pa (↑y.k : Int).toNat) % ((2 : Int) + (↑nn : Int) % (12 : Int)) < (↑((2 : Nat) + nn % (12 : Nat)) : Int)) ∧ addO true (0 : Nat) (seenInt IntKind.u8 W (addOpt pa (↑y.k :
    Int).toNat) % ((2 : Int) + (↑nn : Int) % (12 : Int))).toNat < (2 : Nat) + nn % (12 : Nat) ∧ ((0 : Int) ≤ seenInt IntKind.u8 W (addOpt pa (↑y.k : Int).toNat) % ((2 : Int) + (↑nn :
    Int) % (12 : Int)) ∧ seenInt IntKind.u8 W (addOpt pa (↑y.k : Int).toNat) % ((2 : Int) + (↑nn : Int) % (12 : Int)) < (↑((2 : Nat) + nn % (12 : Nat)) : Int)) ∧ addO true (0 : Nat)
    (seenInt IntKind.u8 W (addOpt pa (↑y.k : Int).toNat) % ((2 : Int) + (↑nn : Int) % (12 : Int))).toNat < (2 : Nat) + nn % (12 : Nat) ∧ ((-9223372036854775808 : Int) ≤ (2 : Int) *
    (↑(y.8 (addO true (0 : Nat) (seenInt IntKind.u8 W (addOpt pa (↑y.k : Int).toNat) % ((2 : Int) + (↑nn : Int) % (12 : Int))).toNat)) : Int) ∧ (2 : Int) * (↑(y.8 (addO true (0 : Nat)
    (seenInt IntKind.u8 W (addOpt pa (↑y.k : Int).toNat) % ((2 : Int) + (↑nn : Int) % (12 : Int))).toNat)) : Int) ≤ (9223372036854775807 : Int)) ∧ ((-9223372036854775808 : Int) ≤ (2 :
    Int) * (↑(y.8 (addO true (0 : Nat) (seenInt IntKind.u8 W (addOpt pa (↑y.k : Int).toNat) % ((2 : Int) + (↑nn : Int) % (12 : Int))).toNat)) : Int) + (8 : Int) ∧ (2 : Int) * (↑(y.8
    (addO true (0 : Nat) (seenInt IntKind.u8 W (addOpt pa (↑y.k : Int).toNat) % ((2 : Int) + (↑nn : Int) % (12 : Int))).toNat)) : Int) + (8 : Int) ≤ (9223372036854775807 : Int)) ∧
    (decide ((if addO true (0 : Nat) (seenInt IntKind.u8 W (addOpt pa (↑y.k : Int).toNat) % ((2 : Int) + (↑nn : Int) % (12 : Int))).toNat = addO true (0 : Nat) (seenInt IntKind.u8 W
    (addOpt pa (↑y.k : Int).toNat) % ((2 : Int) + (↑nn : Int) % (12 : Int))).toNat then (↑(y.9 (addO true (0 : Nat) (seenInt IntKind.u8 W (addOpt pa (↑y.k : Int).toNat) % ((2 : Int) +
    (↑nn : Int) % (12 : Int))).toNat)) : Int) + (1 : Int) else (↑(y.9 (addO true (0 : Nat) (seenInt IntKind.u8 W (addOpt pa (↑y.k : Int).toNat) % ((2 : Int) + (↑nn : Int) % (12 :
    Int))).toNat)) : Int)) > (2 : Int) * (↑(y.8 (addO true (0 : Nat) (seenInt IntKind.u8 W (addOpt pa (↑y.k : Int).toNat) % ((2 : Int) + (↑nn : Int) % (12 : Int))).toNat)) : Int) + (8 :
    Int)) = true → false = true ∧ some W = some W) ∧ (decide ((if addO true (0 : Nat) (seenInt IntKind.u8 W (addOpt pa (↑y.k : Int).toNat) % ((2 : Int) + (↑nn : Int) % (12 :
    Int))).toNat = addO true (0 : Nat) (seenInt IntKind.u8 W (addOpt pa (↑y.k : Int).toNat) % ((2 : Int) + (↑nn : Int) % (12 : Int))).toNat then (↑(y.9 (addO true (0 : Nat) (seenInt
    IntKind.u8 W (addOpt pa (↑y.k : Int).toNat) % ((2 : Int) + (↑nn : Int) % (12 : Int))).toNat)) : Int) + (1 : Int) else (↑(y.9 (addO true (0 : Nat) (seenInt IntKind.u8 W (addOpt pa
    (↑y.k : Int).toNat) % ((2 : Int) + (↑nn : Int) % (12 : Int))).toNat)) : Int)) > (2 : Int) * (↑(y.8 (addO true (0 : Nat) (seenInt IntKind.u8 W (addOpt pa (↑y.k : Int).toNat) % ((2 :
    Int) + (↑nn : Int) % (12 : Int))).toNat)) : Int) + (8 : Int)) = false → ((2 : Nat) + nn % (12 : Nat) = (2 : Nat) + nn % (12 : Nat) ∧ (seenInt IntKind.u8 W (addOpt pa (↑y.k :
    Int).toNat) % ((2 : Int) + (↑nn : Int) % (12 : Int))).toNat = (seenInt IntKind.u8 W (addOpt pa (↑y.k : Int).toNat) % ((2 : Int) + (↑nn : Int) % (12 : Int))).toNat ∧ g = g) ∧ ∃ (y_2
    : FM y), (2 : Int) + (↑nn : Int) % (12 : Int) = (2 : Int) + (↑nn : Int) % (12 : Int) ∧ pa = pa ∧ plen = plen ∧ pcap = pcap ∧ (↑plen : Int) = (↑plen : Int) ∧ (↑y.k : Int) = (↑y.k :
    Int) ∧ W = W ∧ (0 : Nat) = (0 : Nat) ∧ (2 : Nat) + nn % (12 : Nat) = (2 : Nat) + nn % (12 : Nat) ∧ (2 : Nat) + nn % (12 : Nat) = (2 : Nat) + nn % (12 : Nat) ∧ (0 : Nat) = (0 : Nat)
    ∧ (2 : Nat) + nn % (12 : Nat) = (2 : Nat) + nn % (12 : Nat) ∧ (2 : Nat) + nn % (12 : Nat) = (2 : Nat) + nn % (12 : Nat) ∧ (0 : Nat) = (0 : Nat) ∧ (2 : Nat) + nn % (12 : Nat) = (2 :
    Nat) + nn % (12 : Nat) ∧ (2 : Nat) + nn % (12 : Nat) = (2 : Nat) + nn % (12 : Nat) ∧ y_2.x = clmAG y_1 y.x ∧ ((2 : Nat) + nn % (12 : Nat) = (2 : Nat) + nn % (12 : Nat) ∧ (2 : Nat) +
    nn % (12 : Nat) = (2 : Nat) + nn % (12 : Nat) ∧ y_2.c = fun (j : Nat) => if j = (seenInt IntKind.u8 W (addOpt pa (↑y.k : Int).toNat) % ((2 : Int) + (↑nn : Int) % (12 : Int))).toNat
    then some (clmXGF y_1 (HO.obj [] y.x)) else y.c j) ∧ ((2 : Nat) + nn % (12 : Nat) = (2 : Nat) + nn % (12 : Nat) ∧ (2 : Nat) + nn % (12 : Nat) = (2 : Nat) + nn % (12 : Nat) ∧ ∀ (i :
    Nat), i < (2 : Nat) + nn % (12 : Nat) → (↑(y_2.6 i) : Int) = (↑(y.8 i) : Int)) ∧ ((2 : Nat) + nn % (12 : Nat) = (2 : Nat) + nn % (12 : Nat) ∧ (2 : Nat) + nn % (12 : Nat) = (2 : Nat)
    + nn % (12 : Nat) ∧ ∀ (i : Nat), i < (2 : Nat) + nn % (12 : Nat) → (↑(y_2.7 i) : Int) = if i = addO true (0 : Nat) (seenInt IntKind.u8 W (addOpt pa (↑y.k : Int).toNat) % ((2 : Int)
    + (↑nn : Int) % (12 : Int))).toNat then (↑(y.9 (addO true (0 : Nat) (seenInt IntKind.u8 W (addOpt pa (↑y.k : Int).toNat) % ((2 : Int) + (↑nn : Int) % (12 : Int))).toNat)) : Int) +
    (1 : Int) else (↑(y.9 i) : Int)) ∧ True))) ∧ ((clmXGF y_1 (HO.obj [] y.x)).got = false → ((2 : Nat) + nn % (12 : Nat) = (2 : Nat) + nn % (12 : Nat) ∧ (seenInt IntKind.u8 W (addOpt
    pa (↑y.k : Int).toNat) % ((2 : Int) + (↑nn : Int) % (12 : Int))).toNat = (seenInt IntKind.u8 W (addOpt pa (↑y.k : Int).toNat) % ((2 : Int) + (↑nn : Int) % (12 : Int))).toNat ∧ g =
    g) ∧ ∃ (y_2 : FM y), (2 : Int) + (↑nn : Int) % (12 : Int) = (2 : Int) + (↑nn : Int) % (12 : Int) ∧ pa = pa ∧ plen = plen ∧ pcap = pcap ∧ (↑plen : Int) = (↑plen : Int) ∧ (↑y.k : Int)
    = (↑y.k : Int) ∧ W = W ∧ (0 : Nat) = (0 : Nat) ∧ (2 : Nat) + nn % (12 : Nat) = (2 : Nat) + nn % (12 : Nat) ∧ (2 : Nat) + nn % (12 : Nat) = (2 : Nat) + nn % (12 : Nat) ∧ (0 : Nat) =
    (0 : Nat) ∧ (2 : Nat) + nn % (12 : Nat) = (2 : Nat) + nn % (12 : Nat) ∧ (2 : Nat) + nn % (12 : Nat) = (2 : Nat) + nn % (12 : Nat) ∧ (0 : Nat) = (0 : Nat) ∧ (2 : Nat) + nn % (12 :
    Nat) = (2 : Nat) + nn % (12 : Nat) ∧ (2 : Nat) + nn % (12 : Nat) = (2 : Nat) + nn % (12 : Nat) ∧ y_2.x = clmAG y_1 y.x ∧ ((2 : Nat) + nn % (12 : Nat) = (2 : Nat) + nn % (12 : Nat) ∧
    (2 : Nat) + nn % (12 : Nat) = (2 : Nat) + nn % (12 : Nat) ∧ y_2.c = fun (j : Nat) => if j = (seenInt IntKind.u8 W (addOpt pa (↑y.k : Int).toNat) % ((2 : Int) + (↑nn : Int) % (12 :
    Int))).toNat then some (clmXGF y_1 (HO.obj [] y.x)) else y.c j) ∧ ((2 : Nat) + nn % (12 : Nat) = (2 : Nat) + nn % (12 : Nat) ∧ (2 : Nat) + nn % (12 : Nat) = (2 : Nat) + nn % (12 :
    Nat) ∧ ∀ (i : Nat), i < (2 : Nat) + nn % (12 : Nat) → (↑(y_2.6 i) : Int) = (↑(y.8 i) : Int)) ∧ ((2 : Nat) + nn % (12 : Nat) = (2 : Nat) + nn % (12 : Nat) ∧ (2 : Nat) + nn % (12 :
    Nat) = (2 : Nat) + nn % (12 : Nat) ∧ ∀ (i : Nat), i < (2 : Nat) + nn % (12 : Nat) → (↑(y_2.7 i) : Int) = if i = addO true (0 : Nat) (seenInt IntKind.u8 W (addOpt pa (↑y.k :
    Int).toNat) % ((2 : Int) + (↑nn : Int) % (12 : Int))).toNat then (↑(y.9 (addO true (0 : Nat) (seenInt IntKind.u8 W (addOpt pa (↑y.k : Int).toNat) % ((2 : Int) + (↑nn : Int) % (12 :
    Int))).toNat)) : Int) + (1 : Int) else (↑(y.9 i) : Int)) ∧ True)) ∧ (false = false → ((2 : Nat) + nn % (12 : Nat) = (2 : Nat) + nn % (12 : Nat) ∧ (seenInt IntKind.u8 W (addOpt pa
    (↑y.k : Int).toNat) % ((2 : Int) + (↑nn : Int) % (12 : Int))).toNat = (seenInt IntKind.u8 W (addOpt pa (↑y.k : Int).toNat) % ((2 : Int) + (↑nn : Int) % (12 : Int))).toNat ∧ g = g) ∧
    ∃ (y_2 : FM y), (2 : Int) + (↑nn : Int) % (12 : Int) = (2 : Int) + (↑nn : Int) % (12 : Int) ∧ pa = pa ∧ plen = plen ∧ pcap = pcap ∧ (↑plen : Int) = (↑plen : Int) ∧ (↑y.k : Int) =
    (↑y.k : Int) ∧ W = W ∧ (0 : Nat) = (0 : Nat) ∧ (2 : Nat) + nn % (12 : Nat) = (2 : Nat) + nn % (12 : Nat) ∧ (2 : Nat) + nn % (12 : Nat) = (2 : Nat) + nn % (12 : Nat) ∧ (0 : Nat) = (0
    : Nat) ∧ (2 : Nat) + nn % (12 : Nat) = (2 : Nat) + nn % (12 : Nat) ∧ (2 : Nat) + nn % (12 : Nat) = (2 : Nat) + nn % (12 : Nat) ∧ (0 : Nat) = (0 : Nat) ∧ (2 : Nat) + nn % (12 : Nat)
    = (2 : Nat) + nn % (12 : Nat) ∧ (2 : Nat) + nn % (12 : Nat) = (2 : Nat) + nn % (12 : Nat) ∧ y_2.x = clmAG y_1 y.x ∧ ((2 : Nat) + nn % (12 : Nat) = (2 : Nat) + nn % (12 : Nat) ∧ (2 :
    Nat) + nn % (12 : Nat) = (2 : Nat) + nn % (12 : Nat) ∧ y_2.c = fun (j : Nat) => if j = (seenInt IntKind.u8 W (addOpt pa (↑y.k : Int).toNat) % ((2 : Int) + (↑nn : Int) % (12 :
    Int))).toNat then some (clmXGF y_1 (HO.obj [] y.x)) else y.c j) ∧ ((2 : Nat) + nn % (12 : Nat) = (2 : Nat) + nn % (12 : Nat) ∧ (2 : Nat) + nn % (12 : Nat) = (2 : Nat) + nn % (12 :
    Nat) ∧ ∀ (i : Nat), i < (2 : Nat) + nn % (12 : Nat) → (↑(y_2.6 i) : Int) = (↑(y.8 i) : Int)) ∧ ((2 : Nat) + nn % (12 : Nat) = (2 : Nat) + nn % (12 : Nat) ∧ (2 : Nat) + nn % (12 :
    Nat) = (2 : Nat) + nn % (12 : Nat) ∧ ∀ (i : Nat), i < (2 : Nat) + nn % (12 : Nat) → (↑(y_2.7 i) : Int) = (↑(y.9 i) : Int)) ∧ True))) ∧ True) ∧ (decide (tlyZ (clmAG y_1 y.x).t (4 :
    Nat) > tlyZ y.x.t (4 : Nat)) = false → ((2 : Nat) + nn % (12 : Nat) = (2 : Nat) + nn % (12 : Nat) ∧ (seenInt IntKind.u8 W (addOpt pa (↑y.k : Int).toNat) % ((2 : Int) + (↑nn : Int) %
    (12 : Int))).toNat = (seenInt IntKind.u8 W (addOpt pa (↑y.k : Int).toNat) % ((2 : Int) + (↑nn : Int) % (12 : Int))).toNat ∧ g = g) ∧ ∃ (y_2 : FM y), (2 : Int) + (↑nn : Int) % (12 :
    Int) = (2 : Int) + (↑nn : Int) % (12 : Int) ∧ pa = pa ∧ plen = plen ∧ pcap = pcap ∧ (↑plen : Int) = (↑plen : Int) ∧ (↑y.k : Int) = (↑y.k : Int) ∧ W = W ∧ (0 : Nat) = (0 : Nat) ∧ (2
    : Nat) + nn % (12 : Nat) = (2 : Nat) + nn % (12 : Nat) ∧ (2 : Nat) + nn % (12 : Nat) = (2 : Nat) + nn % (12 : Nat) ∧ (0 : Nat) = (0 : Nat) ∧ (2 : Nat) + nn % (12 : Nat) = (2 : Nat)
    + nn % (12 : Nat) ∧ (2 : Nat) + nn % (12 : Nat) = (2 : Nat) + nn % (12 : Nat) ∧ (0 : Nat) = (0 : Nat) ∧ (2 : Nat) + nn % (12 : Nat) = (2 : Nat) + nn % (12 : Nat) ∧ (2 : Nat) + nn %
    (12 : Nat) = (2 : Nat) + nn % (12 : Nat) ∧ y_2.x = clmAG y_1 y.x ∧ ((2 : Nat) + nn % (12 : Nat) = (2 : Nat) + nn % (12 : Nat) ∧ (2 : Nat) + nn % (12 : Nat) = (2 : Nat) + nn % (12 :
    Nat) ∧ y_2.c = fun (j : Nat) => if j = (seenInt IntKind.u8 W (addOpt pa (↑y.k : Int).toNat) % ((2 : Int) + (↑nn : Int) % (12 : Int))).toNat then some (clmXGF y_1 (HO.obj [] y.x))
    else y.c j) ∧ ((2 : Nat) + nn % (12 : Nat) = (2 : Nat) + nn % (12 : Nat) ∧ (2 : Nat) + nn % (12 : Nat) = (2 : Nat) + nn % (12 : Nat) ∧ ∀ (i : Nat), i < (2 : Nat) + nn % (12 : Nat) →
    (↑(y_2.6 i) : Int) = (↑(y.8 i) : Int)) ∧ ((2 : Nat) + nn % (12 : Nat) = (2 : Nat) + nn % (12 : Nat) ∧ (2 : Nat) + nn % (12 : Nat) = (2 : Nat) + nn % (12 : Nat) ∧ ∀ (i : Nat), i < (2
    : Nat) + nn % (12 : Nat) → (↑(y_2.7 i) : Int) = (↑(y.9 i) : Int)) ∧ True))) ∧ True)))) ∧ ∀ (y_2 : FM y) (ρ : Nat → Value), (∃ (y_3 : { j : Nat // j ≤ (2 : Nat) + nn % (12 : Nat) }),
    (2 : Int) + (↑nn : Int) % (12 : Int) = (2 : Int) + (↑nn : Int) % (12 : Int) ∧ pa = pa ∧ plen = plen ∧ pcap = pcap ∧ (↑plen : Int) = (↑plen : Int) ∧ (↑y.k : Int) = (↑y.k : Int) ∧
    (↑((2 : Nat) + nn % (12 : Nat)) : Int) = (↑((2 : Nat) + nn % (12 : Nat)) : Int) ∧ W = W ∧ (↑y_3.val : Int) = (0 : Int) ∧ (↑(nAt (posF y_2.c) (0 : Nat) y_3.val) : Int) = (0 : Int) ∧
    (0 : Nat) = (0 : Nat) ∧ (2 : Nat) + nn % (12 : Nat) = (2 : Nat) + nn % (12 : Nat) ∧ (2 : Nat) + nn % (12 : Nat) = (2 : Nat) + nn % (12 : Nat) ∧ (0 : Nat) = (0 : Nat) ∧ (2 : Nat) +
    nn % (12 : Nat) = (2 : Nat) + nn % (12 : Nat) ∧ (2 : Nat) + nn % (12 : Nat) = (2 : Nat) + nn % (12 : Nat) ∧ (0 : Nat) = (0 : Nat) ∧ (2 : Nat) + nn % (12 : Nat) = (2 : Nat) + nn %
    (12 : Nat) ∧ (2 : Nat) + nn % (12 : Nat) = (2 : Nat) + nn % (12 : Nat) ∧ y_2.x = y_2.x ∧ ((2 : Nat) + nn % (12 : Nat) = (2 : Nat) + nn % (12 : Nat) ∧ (2 : Nat) + nn % (12 : Nat) =
    (2 : Nat) + nn % (12 : Nat) ∧ y_2.c = y_2.c) ∧ ((2 : Nat) + nn % (12 : Nat) = (2 : Nat) + nn % (12 : Nat) ∧ (2 : Nat) + nn % (12 : Nat) = (2 : Nat) + nn % (12 : Nat) ∧ ∀ (i : Nat),
    i < (2 : Nat) + nn % (12 : Nat) → (↑(y_2.6 i) : Int) = (↑(y_2.6 i) : Int)) ∧ ((2 : Nat) + nn % (12 : Nat) = (2 : Nat) + nn % (12 : Nat) ∧ (2 : Nat) + nn % (12 : Nat) = (2 : Nat) +
    nn % (12 : Nat) ∧ ∀ (i : Nat), i < (2 : Nat) + nn % (12 : Nat) → (↑(y_2.7 i) : Int) = (↑(y_2.7 i) : Int)) ∧ True) ∧ ∀ (y_3 : { j : Nat // j ≤ (2 : Nat) + nn % (12 : Nat) }) (ρ : Nat
    → Value), (decide ((↑y_3.val : Int) < (↑((2 : Nat) + nn % (12 : Nat)) : Int)) = true → ((0 : Int) ≤ (↑y_3.val : Int) ∧ (↑y_3.val : Int) < (↑((2 : Nat) + nn % (12 : Nat)) : Int)) ∧ ∀
    (g : Nat → List Value), (y_2.c (↑y_3.val : Int).toNat = none → ((0 : Int) ≤ (↑y_3.val : Int) ∧ (↑y_3.val : Int) < (↑((2 : Nat) + nn % (12 : Nat)) : Int)) ∧ addO true (0 : Nat)
    (↑y_3.val : Int).toNat = (↑y_3.val : Int).toNat ∧ ((2 : Nat) + nn % (12 : Nat) = (2 : Nat) + nn % (12 : Nat) ∧ (↑y_3.val : Int).toNat = (↑y_3.val : Int).toNat ∧ g = g) ∧
    ((-9223372036854775808 : Int) ≤ (↑y_3.val : Int) + (1 : Int) ∧ (↑y_3.val : Int) + (1 : Int) ≤ (9223372036854775807 : Int)) ∧ ∃ (y' : { j : Nat // j ≤ (2 : Nat) + nn % (12 : Nat) }),
    (2 : Nat) + nn % (12 : Nat) - y'.val < (2 : Nat) + nn % (12 : Nat) - y_3.val ∧ (2 : Int) + (↑nn : Int) % (12 : Int) = (2 : Int) + (↑nn : Int) % (12 : Int) ∧ pa = pa ∧ plen = plen ∧
    pcap = pcap ∧ (↑plen : Int) = (↑plen : Int) ∧ (↑y.k : Int) = (↑y.k : Int) ∧ (↑((2 : Nat) + nn % (12 : Nat)) : Int) = (↑((2 : Nat) + nn % (12 : Nat)) : Int) ∧ W = W ∧ (↑y'.val : Int)
    = (↑y_3.val : Int) + (1 : Int) ∧ (↑(nAt (posF y_2.c) (0 : Nat) y'.val) : Int) = (↑(nAt (posF y_2.c) (0 : Nat) y_3.val) : Int) ∧ (0 : Nat) = (0 : Nat) ∧ (2 : Nat) + nn % (12 : Nat) =
    (2 : Nat) + nn % (12 : Nat) ∧ (2 : Nat) + nn % (12 : Nat) = (2 : Nat) + nn % (12 : Nat) ∧ (0 : Nat) = (0 : Nat) ∧ (2 : Nat) + nn % (12 : Nat) = (2 : Nat) + nn % (12 : Nat) ∧ (2 :
    Nat) + nn % (12 : Nat) = (2 : Nat) + nn % (12 : Nat) ∧ (0 : Nat) = (0 : Nat) ∧ (2 : Nat) + nn % (12 : Nat) = (2 : Nat) + nn % (12 : Nat) ∧ (2 : Nat) + nn % (12 : Nat) = (2 : Nat) +
    nn % (12 : Nat) ∧ y_2.x = y_2.x ∧ ((2 : Nat) + nn % (12 : Nat) = (2 : Nat) + nn % (12 : Nat) ∧ (2 : Nat) + nn % (12 : Nat) = (2 : Nat) + nn % (12 : Nat) ∧ y_2.c = fun (j : Nat) =>
    if j = (↑y_3.val : Int).toNat then none else y_2.c j) ∧ ((2 : Nat) + nn % (12 : Nat) = (2 : Nat) + nn % (12 : Nat) ∧ (2 : Nat) + nn % (12 : Nat) = (2 : Nat) + nn % (12 : Nat) ∧ ∀ (i
    : Nat), i < (2 : Nat) + nn % (12 : Nat) → (↑(y_2.6 i) : Int) = (↑(y_2.6 i) : Int)) ∧ ((2 : Nat) + nn % (12 : Nat) = (2 : Nat) + nn % (12 : Nat) ∧ (2 : Nat) + nn % (12 : Nat) = (2 :
    Nat) + nn % (12 : Nat) ∧ ∀ (i : Nat), i < (2 : Nat) + nn % (12 : Nat) → (↑(y_2.7 i) : Int) = (↑(y_2.7 i) : Int)) ∧ True) ∧ ∀ (y_4 : clmH.X), y_2.c (↑y_3.val : Int).toNat = some y_4
    → ((0 : Int) ≤ (↑y_3.val : Int) ∧ (↑y_3.val : Int) < (↑((2 : Nat) + nn % (12 : Nat)) : Int)) ∧ addO true (0 : Nat) (↑y_3.val : Int).toNat = (↑y_3.val : Int).toNat ∧
    ((-9223372036854775808 : Int) ≤ (↑(nAt (posF y_2.c) (0 : Nat) y_3.val) : Int) + (1 : Int) ∧ (↑(nAt (posF y_2.c) (0 : Nat) y_3.val) : Int) + (1 : Int) ≤ (9223372036854775807 : Int))
    ∧ ((2 : Nat) + nn % (12 : Nat) = (2 : Nat) + nn % (12 : Nat) ∧ (↑y_3.val : Int).toNat = (↑y_3.val : Int).toNat ∧ g = g) ∧ ((-9223372036854775808 : Int) ≤ (↑y_3.val : Int) + (1 :
    Int) ∧ (↑y_3.val : Int) + (1 : Int) ≤ (9223372036854775807 : Int)) ∧ ∃ (y' : { j : Nat // j ≤ (2 : Nat) + nn % (12 : Nat) }), (2 : Nat) + nn % (12 : Nat) - y'.val < (2 : Nat) + nn %
    (12 : Nat) - y_3.val ∧ (2 : Int) + (↑nn : Int) % (12 : Int) = (2 : Int) + (↑nn : Int) % (12 : Int) ∧ pa = pa ∧ plen = plen ∧ pcap = pcap ∧ (↑plen : Int) = (↑plen : Int) ∧ (↑y.k :
    Int) = (↑y.k : Int) ∧ (↑((2 : Nat) + nn % (12 : Nat)) : Int) = (↑((2 : Nat) + nn % (12 : Nat)) : Int) ∧ W = W ∧ (↑y'.val : Int) = (↑y_3.val : Int) + (1 : Int) ∧ (↑(nAt (posF y_2.c)
    (0 : Nat) y'.val) : Int) = (↑(nAt (posF y_2.c) (0 : Nat) y_3.val) : Int) + (1 : Int) ∧ (0 : Nat) = (0 : Nat) ∧ (2 : Nat) + nn % (12 : Nat) = (2 : Nat) + nn % (12 : Nat) ∧ (2 : Nat)
    + nn % (12 : Nat) = (2 : Nat) + nn % (12 : Nat) ∧ (0 : Nat) = (0 : Nat) ∧ (2 : Nat) + nn % (12 : Nat) = (2 : Nat) + nn % (12 : Nat) ∧ (2 : Nat) + nn % (12 : Nat) = (2 : Nat) + nn %
    (12 : Nat) ∧ (0 : Nat) = (0 : Nat) ∧ (2 : Nat) + nn % (12 : Nat) = (2 : Nat) + nn % (12 : Nat) ∧ (2 : Nat) + nn % (12 : Nat) = (2 : Nat) + nn % (12 : Nat) ∧ y_2.x = y_2.x ∧ ((2 :
    Nat) + nn % (12 : Nat) = (2 : Nat) + nn % (12 : Nat) ∧ (2 : Nat) + nn % (12 : Nat) = (2 : Nat) + nn % (12 : Nat) ∧ y_2.c = fun (j : Nat) => if j = (↑y_3.val : Int).toNat then some
    y_4 else y_2.c j) ∧ ((2 : Nat) + nn % (12 : Nat) = (2 : Nat) + nn % (12 : Nat) ∧ (2 : Nat) + nn % (12 : Nat) = (2 : Nat) + nn % (12 : Nat) ∧ ∀ (i : Nat), i < (2 : Nat) + nn % (12 :
    Nat) → (↑(y_2.6 i) : Int) = (↑(y_2.6 i) : Int)) ∧ ((2 : Nat) + nn % (12 : Nat) = (2 : Nat) + nn % (12 : Nat) ∧ (2 : Nat) + nn % (12 : Nat) = (2 : Nat) + nn % (12 : Nat) ∧ ∀ (i :
    Nat), i < (2 : Nat) + nn % (12 : Nat) → (↑(y_2.7 i) : Int) = (↑(y_2.7 i) : Int)) ∧ True) ∧ (decide ((↑y_3.val : Int) < (↑((2 : Nat) + nn % (12 : Nat)) : Int)) = false → (∃ (y_4 : F3
    y_2 (nAt (posF y_2.c) (0 : Nat) y_3.val)), (2 : Int) + (↑nn : Int) % (12 : Int) = (2 : Int) + (↑nn : Int) % (12 : Int) ∧ (↑(nAt (posF y_2.c) (0 : Nat) y_3.val) : Int) = (↑(nAt (posF
    y_2.c) (0 : Nat) y_3.val) : Int) ∧ pa = pa ∧ plen = plen ∧ pcap = pcap ∧ (↑plen : Int) = (↑plen : Int) ∧ (↑y.k : Int) = (↑y.k : Int) ∧ (↑((2 : Nat) + nn % (12 : Nat)) : Int) = (↑((2
    : Nat) + nn % (12 : Nat)) : Int) ∧ W = W ∧ (↑y_4.j : Int) = (0 : Int) ∧ (0 : Nat) = (0 : Nat) ∧ (2 : Nat) + nn % (12 : Nat) = (2 : Nat) + nn % (12 : Nat) ∧ (2 : Nat) + nn % (12 :
    Nat) = (2 : Nat) + nn % (12 : Nat) ∧ (0 : Nat) = (0 : Nat) ∧ (300 : Nat) = (300 : Nat) ∧ (0 : Nat) = (0 : Nat) ∧ (2 : Nat) + nn % (12 : Nat) = (2 : Nat) + nn % (12 : Nat) ∧ (2 :
    Nat) + nn % (12 : Nat) = (2 : Nat) + nn % (12 : Nat) ∧ (0 : Nat) = (0 : Nat) ∧ (2 : Nat) + nn % (12 : Nat) = (2 : Nat) + nn % (12 : Nat) ∧ (2 : Nat) + nn % (12 : Nat) = (2 : Nat) +
    nn % (12 : Nat) ∧ (0 : Nat) = (0 : Nat) ∧ (2 : Nat) + nn % (12 : Nat) = (2 : Nat) + nn % (12 : Nat) ∧ (2 : Nat) + nn % (12 : Nat) = (2 : Nat) + nn % (12 : Nat) ∧ y_2.x = y_2.x ∧ ((2
    : Nat) + nn % (12 : Nat) = (2 : Nat) + nn % (12 : Nat) ∧ (2 : Nat) + nn % (12 : Nat) = (2 : Nat) + nn % (12 : Nat) ∧ y_2.c = y_2.c) ∧ ((2 : Nat) + nn % (12 : Nat) = (2 : Nat) + nn %
    (12 : Nat) ∧ (2 : Nat) + nn % (12 : Nat) = (2 : Nat) + nn % (12 : Nat) ∧ ∀ (i : Nat), i < (2 : Nat) + nn % (12 : Nat) → (↑(y_4.2 i) : Int) = (↑(y_2.6 i) : Int)) ∧ ((2 : Nat) + nn %
    (12 : Nat) = (2 : Nat) + nn % (12 : Nat) ∧ (2 : Nat) + nn % (12 : Nat) = (2 : Nat) + nn % (12 : Nat) ∧ ∀ (i : Nat), i < (2 : Nat) + nn % (12 : Nat) → (↑(y_2.7 i) : Int) = (↑(y_2.7
    i) : Int)) ∧ ((300 : Nat) = (300 : Nat) ∧ (300 : Nat) = (300 : Nat) ∧ ∀ (i : Nat), i < (300 : Nat) → (↑(y_4.3 i) : Int) = (0 : Int)) ∧ True) ∧ ∀ (y_4 : F3 y_2 (nAt (posF y_2.c) (0 :
    Nat) y_3.val)) (ρ : Nat → Value), (decide ((↑y_4.j : Int) < (↑((2 : Nat) + nn % (12 : Nat)) : Int)) = true → ((0 : Int) ≤ (↑y_4.j : Int) ∧ (↑y_4.j : Int) < (↑((2 : Nat) + nn % (12 :
    Nat)) : Int)) ∧ ∀ (g : Nat → List Value), (y_2.c (↑y_4.j : Int).toNat = none → ((0 : Int) ≤ (↑y_4.j : Int) ∧ (↑y_4.j : Int) < (↑((2 : Nat) + nn % (12 : Nat)) : Int)) ∧ addO true (0
    : Nat) (↑y_4.j : Int).toNat = (↑y_4.j : Int).toNat ∧ ((2 : Nat) + nn % (12 : Nat) = (2 : Nat) + nn % (12 : Nat) ∧ (↑y_4.j : Int).toNat = (↑y_4.j : Int).toNat ∧ g = g) ∧
    ((-9223372036854775808 : Int) ≤ (↑y_4.j : Int) + (1 : Int) ∧ (↑y_4.j : Int) + (1 : Int) ≤ (9223372036854775807 : Int)) ∧ ∃ (y' : F3 y_2 (nAt (posF y_2.c) (0 : Nat) y_3.val)), (2 :
    Nat) + nn % (12 : Nat) - y'.j < (2 : Nat) + nn % (12 : Nat) - y_4.j ∧ (2 : Int) + (↑nn : Int) % (12 : Int) = (2 : Int) + (↑nn : Int) % (12 : Int) ∧ (↑(nAt (posF y_2.c) (0 : Nat)
    y_3.val) : Int) = (↑(nAt (posF y_2.c) (0 : Nat) y_3.val) : Int) ∧ pa = pa ∧ plen = plen ∧ pcap = pcap ∧ (↑plen : Int) = (↑plen : Int) ∧ (↑y.k : Int) = (↑y.k : Int) ∧ (↑((2 : Nat) +
    nn % (12 : Nat)) : Int) = (↑((2 : Nat) + nn % (12 : Nat)) : Int) ∧ W = W ∧ (↑y'.j : Int) = (↑y_4.j : Int) + (1 : Int) ∧ (0 : Nat) = (0 : Nat) ∧ (2 : Nat) + nn % (12 : Nat) = (2 :
    Nat) + nn % (12 : Nat) ∧ (2 : Nat) + nn % (12 : Nat) = (2 : Nat) + nn % (12 : Nat) ∧ (0 : Nat) = (0 : Nat) ∧ (300 : Nat) = (300 : Nat) ∧ (0 : Nat) = (0 : Nat) ∧ (2 : Nat) + nn % (12
    : Nat) = (2 : Nat) + nn % (12 : Nat) ∧ (2 : Nat) + nn % (12 : Nat) = (2 : Nat) + nn % (12 : Nat) ∧ (0 : Nat) = (0 : Nat) ∧ (2 : Nat) + nn % (12 : Nat) = (2 : Nat) + nn % (12 : Nat)
    ∧ (2 : Nat) + nn % (12 : Nat) = (2 : Nat) + nn % (12 : Nat) ∧ (0 : Nat) = (0 : Nat) ∧ (2 : Nat) + nn % (12 : Nat) = (2 : Nat) + nn % (12 : Nat) ∧ (2 : Nat) + nn % (12 : Nat) = (2 :
    Nat) + nn % (12 : Nat) ∧ y_2.x = y_2.x ∧ ((2 : Nat) + nn % (12 : Nat) = (2 : Nat) + nn % (12 : Nat) ∧ (2 : Nat) + nn % (12 : Nat) = (2 : Nat) + nn % (12 : Nat) ∧ y_2.c = fun (j :
    Nat) => if j = (↑y_4.j : Int).toNat then none else y_2.c j) ∧ ((2 : Nat) + nn % (12 : Nat) = (2 : Nat) + nn % (12 : Nat) ∧ (2 : Nat) + nn % (12 : Nat) = (2 : Nat) + nn % (12 : Nat)
    ∧ ∀ (i : Nat), i < (2 : Nat) + nn % (12 : Nat) → (↑(y'.2 i) : Int) = (↑(y_4.2 i) : Int)) ∧ ((2 : Nat) + nn % (12 : Nat) = (2 : Nat) + nn % (12 : Nat) ∧ (2 : Nat) + nn % (12 : Nat) =
    (2 : Nat) + nn % (12 : Nat) ∧ ∀ (i : Nat), i < (2 : Nat) + nn % (12 : Nat) → (↑(y_2.7 i) : Int) = (↑(y_2.7 i) : Int)) ∧ ((300 : Nat) = (300 : Nat) ∧ (300 : Nat) = (300 : Nat) ∧ ∀ (i
    : Nat), i < (300 : Nat) → (↑(y'.3 i) : Int) = (↑(y_4.3 i) : Int)) ∧ True) ∧ ∀ (y_5 : clmH.X), y_2.c (↑y_4.j : Int).toNat = some y_5 → ((0 : Int) ≤ (↑y_4.j : Int) ∧ (↑y_4.j : Int) <
    (↑((2 : Nat) + nn % (12 : Nat)) : Int)) ∧ addO true (0 : Nat) (↑y_4.j : Int).toNat = (↑y_4.j : Int).toNat ∧ ((0 : Int) ≤ (↑y_4.j : Int) ∧ (↑y_4.j : Int) < (↑((2 : Nat) + nn % (12 :
    Nat)) : Int)) ∧ addO true (0 : Nat) (↑y_4.j : Int).toNat < (2 : Nat) + nn % (12 : Nat) ∧ ((0 : Int) ≤ (↑y_4.j : Int) ∧ (↑y_4.j : Int) < (↑((2 : Nat) + nn % (12 : Nat)) : Int)) ∧
    addO true (0 : Nat) (↑y_4.j : Int).toNat < (2 : Nat) + nn % (12 : Nat) ∧ y_5.ph.le (5 : Nat) ∧ (y_5.got = true → (decide ((↑(if y_5.got = true then y_5.slot else (0 : Nat)) : Int) <
    (0 : Int)) = true → false = true ∧ some W = some W) ∧ (decide ((↑(if y_5.got = true then y_5.slot else (0 : Nat)) : Int) < (0 : Int)) = false → (decide ((↑(if y_5.got = true then
    y_5.slot else (0 : Nat)) : Int) ≥ (300 : Int)) = true → false = true ∧ some W = some W) ∧ (decide ((↑(if y_5.got = true then y_5.slot else (0 : Nat)) : Int) ≥ (300 : Int)) = false →
    ((0 : Int) ≤ (↑(if y_5.got = true then y_5.slot else (0 : Nat)) : Int) ∧ (↑(if y_5.got = true then y_5.slot else (0 : Nat)) : Int) < (300 : Int)) ∧ addO true (0 : Nat) (↑(if y_5.got
    = true then y_5.slot else (0 : Nat)) : Int).toNat < (300 : Nat) ∧ (decide ((↑(y_4.3 (addO true (0 : Nat) (↑(if y_5.got = true then y_5.slot else (0 : Nat)) : Int).toNat)) : Int) >
    (0 : Int)) = true → false = true ∧ some W = some W) ∧ (decide ((↑(y_4.3 (addO true (0 : Nat) (↑(if y_5.got = true then y_5.slot else (0 : Nat)) : Int).toNat)) : Int) > (0 : Int)) =
    false → ((0 : Int) ≤ (↑(if y_5.got = true then y_5.slot else (0 : Nat)) : Int) ∧ (↑(if y_5.got = true then y_5.slot else (0 : Nat)) : Int) < (300 : Int)) ∧ addO true (0 : Nat) (↑(if
    y_5.got = true then y_5.slot else (0 : Nat)) : Int).toNat < (300 : Nat) ∧ ((-9223372036854775808 : Int) ≤ (↑(y_4.3 (addO true (0 : Nat) (↑(if y_5.got = true then y_5.slot else (0 :
    Nat)) : Int).toNat)) : Int) + (1 : Int) ∧ (↑(y_4.3 (addO true (0 : Nat) (↑(if y_5.got = true then y_5.slot else (0 : Nat)) : Int).toNat)) : Int) + (1 : Int) ≤ (9223372036854775807 :
    Int)) ∧ ((0 : Int) ≤ (↑(if y_5.got = true then y_5.slot else (0 : Nat)) : Int) ∧ (↑(if y_5.got = true then y_5.slot else (0 : Nat)) : Int) < (300 : Int)) ∧ addO true (0 : Nat) (↑(if
    y_5.got = true then y_5.slot else (0 : Nat)) : Int).toNat < (300 : Nat) ∧ ((2 : Nat) + nn % (12 : Nat) = (2 : Nat) + nn % (12 : Nat) ∧ (↑y_4.j : Int).toNat = (↑y_4.j : Int).toNat ∧
    g = g) ∧ ((-9223372036854775808 : Int) ≤ (↑y_4.j : Int) + (1 : Int) ∧ (↑y_4.j : Int) + (1 : Int) ≤ (9223372036854775807 : Int)) ∧ ∃ (y' : F3 y_2 (nAt (posF y_2.c) (0 : Nat)
    y_3.val)), (2 : Nat) + nn % (12 : Nat) - y'.j < (2 : Nat) + nn % (12 : Nat) - y_4.j ∧ (2 : Int) + (↑nn : Int) % (12 : Int) = (2 : Int) + (↑nn : Int) % (12 : Int) ∧ (↑(nAt (posF
    y_2.c) (0 : Nat) y_3.val) : Int) = (↑(nAt (posF y_2.c) (0 : Nat) y_3.val) : Int) ∧ pa = pa ∧ plen = plen ∧ pcap = pcap ∧ (↑plen : Int) = (↑plen : Int) ∧ (↑y.k : Int) = (↑y.k : Int)
    ∧ (↑((2 : Nat) + nn % (12 : Nat)) : Int) = (↑((2 : Nat) + nn % (12 : Nat)) : Int) ∧ W = W ∧ (↑y'.j : Int) = (↑y_4.j : Int) + (1 : Int) ∧ (0 : Nat) = (0 : Nat) ∧ (2 : Nat) + nn % (12
    : Nat) = (2 : Nat) + nn % (12 : Nat) ∧ (2 : Nat) + nn % (12 : Nat) = (2 : Nat) + nn % (12 : Nat) ∧ (0 : Nat) = (0 : Nat) ∧ (300 : Nat) = (300 : Nat) ∧ (0 : Nat) = (0 : Nat) ∧ (2 :
    Nat) + nn % (12 : Nat) = (2 : Nat) + nn % (12 : Nat) ∧ (2 : Nat) + nn % (12 : Nat) = (2 : Nat) + nn % (12 : Nat) ∧ (0 : Nat) = (0 : Nat) ∧ (2 : Nat) + nn % (12 : Nat) = (2 : Nat) +
    nn % (12 : Nat) ∧ (2 : Nat) + nn % (12 : Nat) = (2 : Nat) + nn % (12 : Nat) ∧ (0 : Nat) = (0 : Nat) ∧ (2 : Nat) + nn % (12 : Nat) = (2 : Nat) + nn % (12 : Nat) ∧ (2 : Nat) + nn %
    (12 : Nat) = (2 : Nat) + nn % (12 : Nat) ∧ y_2.x = y_2.x ∧ ((2 : Nat) + nn % (12 : Nat) = (2 : Nat) + nn % (12 : Nat) ∧ (2 : Nat) + nn % (12 : Nat) = (2 : Nat) + nn % (12 : Nat) ∧
    y_2.c = fun (j : Nat) => if j = (↑y_4.j : Int).toNat then some y_5 else y_2.c j) ∧ ((2 : Nat) + nn % (12 : Nat) = (2 : Nat) + nn % (12 : Nat) ∧ (2 : Nat) + nn % (12 : Nat) = (2 :
    Nat) + nn % (12 : Nat) ∧ ∀ (i : Nat), i < (2 : Nat) + nn % (12 : Nat) → (↑(y'.2 i) : Int) = if i = addO true (0 : Nat) (↑y_4.j : Int).toNat then max (↑(y_4.2 (addO true (0 : Nat)
    (↑y_4.j : Int).toNat)) : Int) (↑(nAt (posF y_2.c) (0 : Nat) y_3.val) : Int) else (↑(y_4.2 i) : Int)) ∧ ((2 : Nat) + nn % (12 : Nat) = (2 : Nat) + nn % (12 : Nat) ∧ (2 : Nat) + nn %
    (12 : Nat) = (2 : Nat) + nn % (12 : Nat) ∧ ∀ (i : Nat), i < (2 : Nat) + nn % (12 : Nat) → (↑(y_2.7 i) : Int) = (↑(y_2.7 i) : Int)) ∧ ((300 : Nat) = (300 : Nat) ∧ (300 : Nat) = (300
    : Nat) ∧ ∀ (i : Nat), i < (300 : Nat) → (↑(y'.3 i) : Int) = if i = addO true (0 : Nat) (↑(if y_5.got = true then y_5.slot else (0 : Nat)) : Int).toNat then (↑(y_4.3 (addO true (0 :
    Nat) (↑(if y_5.got = true then y_5.slot else (0 : Nat)) : Int).toNat)) : Int) + (1 : Int) else (↑(y_4.3 i) : Int)) ∧ True)))) ∧ (y_5.got = false → ((2 : Nat) + nn % (12 : Nat) = (2
    : Nat) + nn % (12 : Nat) ∧ (↑y_4.j : Int).toNat = (↑y_4.j : Int).toNat ∧ g = g) ∧ ((-9223372036854775808 : Int) ≤ (↑y_4.j : Int) + (1 : Int) ∧ (↑y_4.j : Int) + (1 : Int) ≤
    (9223372036854775807 : Int)) ∧ ∃ (y' : F3 y_2 (nAt (posF y_2.c) (0 : Nat) y_3.val)), (2 : Nat) + nn % (12 : Nat) - y'.j < (2 : Nat) + nn % (12 : Nat) - y_4.j ∧ (2 : Int) + (↑nn :
    Int) % (12 : Int) = (2 : Int) + (↑nn : Int) % (12 : Int) ∧ (↑(nAt (posF y_2.c) (0 : Nat) y_3.val) : Int) = (↑(nAt (posF y_2.c) (0 : Nat) y_3.val) : Int) ∧ pa = pa ∧ plen = plen ∧
    pcap = pcap ∧ (↑plen : Int) = (↑plen : Int) ∧ (↑y.k : Int) = (↑y.k : Int) ∧ (↑((2 : Nat) + nn % (12 : Nat)) : Int) = (↑((2 : Nat) + nn % (12 : Nat)) : Int) ∧ W = W ∧ (↑y'.j : Int) =
    (↑y_4.j : Int) + (1 : Int) ∧ (0 : Nat) = (0 : Nat) ∧ (2 : Nat) + nn % (12 : Nat) = (2 : Nat) + nn % (12 : Nat) ∧ (2 : Nat) + nn % (12 : Nat) = (2 : Nat) + nn % (12 : Nat) ∧ (0 :
    Nat) = (0 : Nat) ∧ (300 : Nat) = (300 : Nat) ∧ (0 : Nat) = (0 : Nat) ∧ (2 : Nat) + nn % (12 : Nat) = (2 : Nat) + nn % (12 : Nat) ∧ (2 : Nat) + nn % (12 : Nat) = (2 : Nat) + nn % (12
    : Nat) ∧ (0 : Nat) = (0 : Nat) ∧ (2 : Nat) + nn % (12 : Nat) = (2 : Nat) + nn % (12 : Nat) ∧ (2 : Nat) + nn % (12 : Nat) = (2 : Nat) + nn % (12 : Nat) ∧ (0 : Nat) = (0 : Nat) ∧ (2 :
    Nat) + nn % (12 : Nat) = (2 : Nat) + nn % (12 : Nat) ∧ (2 : Nat) + nn % (12 : Nat) = (2 : Nat) + nn % (12 : Nat) ∧ y_2.x = y_2.x ∧ ((2 : Nat) + nn % (12 : Nat) = (2 : Nat) + nn %
    (12 : Nat) ∧ (2 : Nat) + nn % (12 : Nat) = (2 : Nat) + nn % (12 : Nat) ∧ y_2.c = fun (j : Nat) => if j = (↑y_4.j : Int).toNat then some y_5 else y_2.c j) ∧ ((2 : Nat) + nn % (12 :
    Nat) = (2 : Nat) + nn % (12 : Nat) ∧ (2 : Nat) + nn % (12 : Nat) = (2 : Nat) + nn % (12 : Nat) ∧ ∀ (i : Nat), i < (2 : Nat) + nn % (12 : Nat) → (↑(y'.2 i) : Int) = if i = addO true
    (0 : Nat) (↑y_4.j : Int).toNat then max (↑(y_4.2 (addO true (0 : Nat) (↑y_4.j : Int).toNat)) : Int) (↑(nAt (posF y_2.c) (0 : Nat) y_3.val) : Int) else (↑(y_4.2 i) : Int)) ∧ ((2 :
    Nat) + nn % (12 : Nat) = (2 : Nat) + nn % (12 : Nat) ∧ (2 : Nat) + nn % (12 : Nat) = (2 : Nat) + nn % (12 : Nat) ∧ ∀ (i : Nat), i < (2 : Nat) + nn % (12 : Nat) → (↑(y_2.7 i) : Int)
    = (↑(y_2.7 i) : Int)) ∧ ((300 : Nat) = (300 : Nat) ∧ (300 : Nat) = (300 : Nat) ∧ ∀ (i : Nat), i < (300 : Nat) → (↑(y'.3 i) : Int) = (↑(y_4.3 i) : Int)) ∧ True)) ∧ (decide ((↑y_4.j :
    Int) < (↑((2 : Nat) + nn % (12 : Nat)) : Int)) = false → ∃ (y_5 : FE y), (2 : Int) + (↑nn : Int) % (12 : Int) = (2 : Int) + (↑nn : Int) % (12 : Int) ∧ pa = pa ∧ plen = plen ∧ pcap =
    pcap ∧ (↑plen : Int) = (↑plen : Int) ∧ (↑y.k : Int) = (↑y.k : Int) ∧ W = W ∧ (0 : Nat) = (0 : Nat) ∧ (2 : Nat) + nn % (12 : Nat) = (2 : Nat) + nn % (12 : Nat) ∧ (2 : Nat) + nn % (12
    : Nat) = (2 : Nat) + nn % (12 : Nat) ∧ (0 : Nat) = (0 : Nat) ∧ (2 : Nat) + nn % (12 : Nat) = (2 : Nat) + nn % (12 : Nat) ∧ (2 : Nat) + nn % (12 : Nat) = (2 : Nat) + nn % (12 : Nat)
    ∧ (0 : Nat) = (0 : Nat) ∧ (2 : Nat) + nn % (12 : Nat) = (2 : Nat) + nn % (12 : Nat) ∧ (2 : Nat) + nn % (12 : Nat) = (2 : Nat) + nn % (12 : Nat) ∧ y_5.m.x = y_2.x ∧ ((2 : Nat) + nn %
    (12 : Nat) = (2 : Nat) + nn % (12 : Nat) ∧ (2 : Nat) + nn % (12 : Nat) = (2 : Nat) + nn % (12 : Nat) ∧ y_5.m.c = y_2.c) ∧ ((2 : Nat) + nn % (12 : Nat) = (2 : Nat) + nn % (12 : Nat)
    ∧ (2 : Nat) + nn % (12 : Nat) = (2 : Nat) + nn % (12 : Nat) ∧ ∀ (i : Nat), i < (2 : Nat) + nn % (12 : Nat) → (↑(y_5.2 i) : Int) = (↑(y_4.2 i) : Int)) ∧ ((2 : Nat) + nn % (12 : Nat)
    = (2 : Nat) + nn % (12 : Nat) ∧ (2 : Nat) + nn % (12 : Nat) = (2 : Nat) + nn % (12 : Nat) ∧ ∀ (i : Nat), i < (2 : Nat) + nn % (12 : Nat) → (↑(y_5.m.7 i) : Int) = (↑(y_2.7 i) : Int))
    ∧ True))) ∧ ∀ (y_1 : FE y) (ρ : Nat → Value), ((-9223372036854775808 : Int) ≤ (↑y.k : Int) + (1 : Int) ∧ (↑y.k : Int) + (1 : Int) ≤ (9223372036854775807 : Int)) ∧ ∃ (y' : F1 ((2 :
    Nat) + nn % (12 : Nat)) plen), plen - y'.k < plen - y.k ∧ (2 : Int) + (↑nn : Int) % (12 : Int) = (2 : Int) + (↑nn : Int) % (12 : Int) ∧ pa = pa ∧ plen = plen ∧ pcap = pcap ∧ (↑plen
    : Int) = (↑plen : Int) ∧ W = W ∧ (↑y'.k : Int) = (↑y.k : Int) + (1 : Int) ∧ (0 : Nat) = (0 : Nat) ∧ (2 : Nat) + nn % (12 : Nat) = (2 : Nat) + nn % (12 : Nat) ∧ (2 : Nat) + nn % (12
    : Nat) = (2 : Nat) + nn % (12 : Nat) ∧ (0 : Nat) = (0 : Nat) ∧ (2 : Nat) + nn % (12 : Nat) = (2 : Nat) + nn % (12 : Nat) ∧ (2 : Nat) + nn % (12 : Nat) = (2 : Nat) + nn % (12 : Nat)
    ∧ (0 : Nat) = (0 : Nat) ∧ (2 : Nat) + nn % (12 : Nat) = (2 : Nat) + nn % (12 : Nat) ∧ (2 : Nat) + nn % (12 : Nat) = (2 : Nat) + nn % (12 : Nat) ∧ y'.x = y_1.m.x ∧ ((2 : Nat) + nn %
    (12 : Nat) = (2 : Nat) + nn % (12 : Nat) ∧ (2 : Nat) + nn % (12 : Nat) = (2 : Nat) + nn % (12 : Nat) ∧ y'.c = y_1.m.c) ∧ ((2 : Nat) + nn % (12 : Nat) = (2 : Nat) + nn % (12 : Nat) ∧
    (2 : Nat) + nn % (12 : Nat) = (2 : Nat) + nn % (12 : Nat) ∧ ∀ (i : Nat), i < (2 : Nat) + nn % (12 : Nat) → (↑(y'.8 i) : Int) = (↑(y_1.2 i) : Int)) ∧ ((2 : Nat) + nn % (12 : Nat) =
    (2 : Nat) + nn % (12 : Nat) ∧ (2 : Nat) + nn % (12 : Nat) = (2 : Nat) + nn % (12 : Nat) ∧ ∀ (i : Nat), i < (2 : Nat) + nn % (12 : Nat) → (↑(y'.9 i) : Int) = (↑(y_1.m.7 i) : Int)) ∧
    True) ∧ (decide ((↑y.k : Int) < (↑plen : Int)) = false → (wr64 y.x.faults == (0 : Int)) = true ∧ some W = some W)) ∧ True) ∧ (∀ (K : KO XM), (2 : Int) + (↑nn : Int) % (12 : Int) =
    (2 : Int) + (↑nn : Int) % (12 : Int) ∧ (0 : Int) ≤ (2 : Int) + (↑nn : Int) % (12 : Int) ∧ (8 : Int) * ((2 : Int) + (↑nn : Int) % (12 : Int)) ≤ (281474976710656 : Int) ∧ (2 : Int) +
    (↑nn : Int) % (12 : Int) ≤ (1000000000 : Int) ∧ ((2 : Int) + (↑nn : Int) % (12 : Int) = (2 : Int) + (↑nn : Int) % (12 : Int) ∧ (0 : Int) ≤ (2 : Int) + (↑nn : Int) % (12 : Int) ∧ (8
    : Int) * ((2 : Int) + (↑nn : Int) % (12 : Int)) ≤ (281474976710656 : Int) ∧ (2 : Int) + (↑nn : Int) % (12 : Int) ≤ (1000000000 : Int) ∧ K (SF.mk (215 : Nat) (ST.node (SV.c (SC.int
    false IntKind.u8 (↑nn : Int))) (ST.node (SV.c (SC.sliv pa false plen pcap)) (ST.node (SV.tup []) (ST.node (SV.c (SC.int false IntKind.i64 ((2 : Int) + (↑nn : Int) % (12 : Int))
    (Bd.w (2 : Int) (13 : Int) (Bd.add._proof_1 (2 : Int) (2 : Int) Bd.of._proof_1 (0 : Int) ((12 : Int) - (1 : Int)) (mod_bd Bd.of._proof_1 rfl))))) (ST.node (SV.tup []) (ST.node (SV.c
    (SC.boo true false)) (ST.node (SV.tup []) (ST.node (SV.tup []) ST.nil ST.nil) (ST.node (SV.tup []) ST.nil ST.nil)) (ST.node (SV.tup []) (ST.node (SV.tup []) ST.nil ST.nil) ST.nil))
    (ST.node (SV.tup []) (ST.node (SV.tup []) (ST.node (SV.tup []) ST.nil ST.nil) (ST.node (SV.tup []) ST.nil ST.nil)) (ST.node (SV.tup []) (ST.node (SV.tup []) ST.nil ST.nil) ST.nil)))
    (ST.node (SV.tup []) (ST.node (SV.c (SC.int false IntKind.i64 ((2 : Int) + (↑nn : Int) % (12 : Int)) (Bd.w (2 : Int) (13 : Int) (Bd.add._proof_1 (2 : Int) (2 : Int) Bd.of._proof_1
    (0 : Int) ((12 : Int) - (1 : Int)) (mod_bd Bd.of._proof_1 rfl))))) (ST.node (SV.tup []) (ST.node (SV.tup []) ST.nil ST.nil) (ST.node (SV.tup []) ST.nil ST.nil)) (ST.node (SV.tup [])
    (ST.node (SV.tup []) ST.nil ST.nil) ST.nil)) (ST.node (SV.tup []) (ST.node (SV.tup []) (ST.node (SV.tup []) ST.nil ST.nil) ST.nil) (ST.node (SV.tup []) (ST.node (SV.tup []) ST.nil
    ST.nil) ST.nil)))) (ST.node (SV.tup []) (ST.node (SV.tup []) (ST.node (SV.c (SC.int true IntKind.i64 (0 : Int))) (ST.node (SV.tup []) (ST.node (SV.tup []) ST.nil ST.nil) (ST.node
    (SV.tup []) ST.nil ST.nil)) (ST.node (SV.tup []) (ST.node (SV.tup []) ST.nil ST.nil) ST.nil)) (ST.node (SV.tup []) (ST.node (SV.tup []) (ST.node (SV.tup []) ST.nil ST.nil) (ST.node
    (SV.tup []) ST.nil ST.nil)) (ST.node (SV.tup []) (ST.node (SV.tup []) ST.nil ST.nil) ST.nil))) (ST.node (SV.c (SC.boo true true)) (ST.node (SV.c (SC.sli (23 : Nat) (1 : Nat) true (0
    : Nat) false ((2 : Int) + (↑nn : Int) % (12 : Int)).toNat ((2 : Int) + (↑nn : Int) % (12 : Int)).toNat)) (ST.node (SV.tup []) (ST.node (SV.tup []) ST.nil ST.nil) (ST.node (SV.tup
    []) ST.nil ST.nil)) (ST.node (SV.tup []) (ST.node (SV.tup []) ST.nil ST.nil) ST.nil)) (ST.node (SV.tup []) (ST.node (SV.tup []) (ST.node (SV.tup []) ST.nil ST.nil) ST.nil) (ST.node
    (SV.tup []) (ST.node (SV.tup []) ST.nil ST.nil) ST.nil))))) (ST.node (SV.c (SC.ptr (13 : Nat) (0 : Nat))) (ST.node (SV.c (SC.sli (23 : Nat) (1 : Nat) true (0 : Nat) false ((2 : Int)
    + (↑nn : Int) % (12 : Int)).toNat ((2 : Int) + (↑nn : Int) % (12 : Int)).toNat)) (ST.node (SV.tup []) (ST.node (SV.tup [(false, [SC.ptr (13 : Nat) (0 : Nat)]), (false, [SC.int true
    IntKind.i64 (0 : Int)])]) (ST.node (SV.tup []) (ST.node (SV.tup []) ST.nil ST.nil) (ST.node (SV.tup []) ST.nil ST.nil)) (ST.node (SV.tup []) (ST.node (SV.tup []) ST.nil ST.nil)
    ST.nil)) (ST.node (SV.tup []) (ST.node (SV.tup []) (ST.node (SV.tup []) ST.nil ST.nil) (ST.node (SV.tup []) ST.nil ST.nil)) (ST.node (SV.tup []) (ST.node (SV.tup []) ST.nil ST.nil)
    ST.nil))) (ST.node (SV.tup []) (ST.node (SV.c (SC.sli (20 : Nat) (1 : Nat) true (0 : Nat) false ((2 : Int) + (↑nn : Int) % (12 : Int)).toNat ((2 : Int) + (↑nn : Int) % (12 :
    Int)).toNat)) (ST.node (SV.tup []) (ST.node (SV.tup []) ST.nil ST.nil) (ST.node (SV.tup []) ST.nil ST.nil)) (ST.node (SV.tup []) (ST.node (SV.tup []) ST.nil ST.nil) ST.nil))
    (ST.node (SV.tup []) (ST.node (SV.tup []) (ST.node (SV.tup []) ST.nil ST.nil) ST.nil) (ST.node (SV.tup []) (ST.node (SV.tup []) ST.nil ST.nil) ST.nil)))) (ST.node (SV.tup [])
    (ST.node (SV.tup []) (ST.node (SV.c (SC.int false IntKind.u8 ((↑nn : Int) % (12 : Int)) (Bd.w (0 : Int) (11 : Int) (mod_bd Bd.of._proof_1 rfl)))) (ST.node (SV.tup []) (ST.node
    (SV.tup []) ST.nil ST.nil) (ST.node (SV.tup []) ST.nil ST.nil)) (ST.node (SV.tup []) (ST.node (SV.tup []) ST.nil ST.nil) ST.nil)) (ST.node (SV.tup []) (ST.node (SV.tup []) (ST.node
    (SV.tup []) ST.nil ST.nil) (ST.node (SV.tup []) ST.nil ST.nil)) (ST.node (SV.tup []) (ST.node (SV.tup []) ST.nil ST.nil) ST.nil))) (ST.node (SV.c (SC.sliv pa false plen pcap))
    (ST.node (SV.c (SC.sli (25 : Nat) (1 : Nat) true (0 : Nat) false ((2 : Int) + (↑nn : Int) % (12 : Int)).toNat ((2 : Int) + (↑nn : Int) % (12 : Int)).toNat)) (ST.node (SV.tup [])
    (ST.node (SV.tup []) ST.nil ST.nil) (ST.node (SV.tup []) ST.nil ST.nil)) (ST.node (SV.tup []) (ST.node (SV.tup []) ST.nil ST.nil) ST.nil)) (ST.node (SV.tup []) (ST.node (SV.tup [])
    (ST.node (SV.tup []) ST.nil ST.nil) ST.nil) (ST.node (SV.tup []) (ST.node (SV.tup []) ST.nil ST.nil) ST.nil)))))) (ST.node (SV.tup []) (ST.node (SV.c (SC.boo true false)) (ST.node
    (SV.c (SC.sli (20 : Nat) (1 : Nat) true (0 : Nat) false ((2 : Int) + (↑nn : Int) % (12 : Int)).toNat ((2 : Int) + (↑nn : Int) % (12 : Int)).toNat)) (ST.node (SV.tup []) (ST.node
    (SV.tup [(false, [SC.ptr (13 : Nat) (0 : Nat)]), (false, [SC.int true IntKind.i64 (0 : Int)])]) (ST.node (SV.tup []) (ST.node (SV.tup []) ST.nil ST.nil) (ST.node (SV.tup []) ST.nil
    ST.nil)) (ST.node (SV.tup []) (ST.node (SV.tup []) ST.nil ST.nil) ST.nil)) (ST.node (SV.tup []) (ST.node (SV.tup []) (ST.node (SV.tup []) ST.nil ST.nil) (ST.node (SV.tup []) ST.nil
    ST.nil)) (ST.node (SV.tup []) (ST.node (SV.tup []) ST.nil ST.nil) ST.nil))) (ST.node (SV.tup []) (ST.node (SV.c (SC.int false IntKind.i64 ((2 : Int) + (↑nn : Int) % (12 : Int))
    (Bd.w (2 : Int) (13 : Int) (Bd.add._proof_1 (2 : Int) (2 : Int) Bd.of._proof_1 (0 : Int) ((12 : Int) - (1 : Int)) (mod_bd Bd.of._proof_1 rfl))))) (ST.node (SV.tup []) (ST.node
    (SV.tup []) ST.nil ST.nil) (ST.node (SV.tup []) ST.nil ST.nil)) (ST.node (SV.tup []) (ST.node (SV.tup []) ST.nil ST.nil) ST.nil)) (ST.node (SV.tup []) (ST.node (SV.tup []) (ST.node
    (SV.tup []) ST.nil ST.nil) ST.nil) (ST.node (SV.tup []) (ST.node (SV.tup []) ST.nil ST.nil) ST.nil)))) (ST.node (SV.tup []) (ST.node (SV.tup []) (ST.node (SV.c (SC.int false
    IntKind.u8 (↑nn : Int))) (ST.node (SV.tup []) (ST.node (SV.tup []) ST.nil ST.nil) (ST.node (SV.tup []) ST.nil ST.nil)) (ST.node (SV.tup []) (ST.node (SV.tup []) ST.nil ST.nil)
    ST.nil)) (ST.node (SV.tup []) (ST.node (SV.tup []) (ST.node (SV.tup []) ST.nil ST.nil) (ST.node (SV.tup []) ST.nil ST.nil)) (ST.node (SV.tup []) (ST.node (SV.tup []) ST.nil ST.nil)
    ST.nil))) (ST.node (SV.c (SC.boo true false)) (ST.node (SV.c (SC.int false IntKind.i64 ((2 : Int) + (↑nn : Int) % (12 : Int)) (Bd.w (2 : Int) (13 : Int) (Bd.add._proof_1 (2 : Int)
    (2 : Int) Bd.of._proof_1 (0 : Int) ((12 : Int) - (1 : Int)) (mod_bd Bd.of._proof_1 rfl))))) (ST.node (SV.tup []) (ST.node (SV.tup []) ST.nil ST.nil) (ST.node (SV.tup []) ST.nil
    ST.nil)) (ST.node (SV.tup []) (ST.node (SV.tup []) ST.nil ST.nil) ST.nil)) (ST.node (SV.tup []) (ST.node (SV.tup []) (ST.node (SV.tup []) ST.nil ST.nil) ST.nil) (ST.node (SV.tup [])
    (ST.node (SV.tup []) ST.nil ST.nil) ST.nil))))) (ST.node (SV.c (SC.int true IntKind.i64 (0 : Int))) (ST.node (SV.c (SC.sli (25 : Nat) (1 : Nat) true (0 : Nat) false ((2 : Int) +
    (↑nn : Int) % (12 : Int)).toNat ((2 : Int) + (↑nn : Int) % (12 : Int)).toNat)) (ST.node (SV.tup []) (ST.node (SV.c (SC.ptr (13 : Nat) (0 : Nat))) (ST.node (SV.tup []) (ST.node
    (SV.tup []) ST.nil ST.nil) (ST.node (SV.tup []) ST.nil ST.nil)) (ST.node (SV.tup []) (ST.node (SV.tup []) ST.nil ST.nil) ST.nil)) (ST.node (SV.tup []) (ST.node (SV.tup []) (ST.node
    (SV.tup []) ST.nil ST.nil) (ST.node (SV.tup []) ST.nil ST.nil)) (ST.node (SV.tup []) (ST.node (SV.tup []) ST.nil ST.nil) ST.nil))) (ST.node (SV.tup []) (ST.node (SV.c (SC.int false
    IntKind.i64 ((2 : Int) + (↑nn : Int) % (12 : Int)) (Bd.w (2 : Int) (13 : Int) (Bd.add._proof_1 (2 : Int) (2 : Int) Bd.of._proof_1 (0 : Int) ((12 : Int) - (1 : Int)) (mod_bd
    Bd.of._proof_1 rfl))))) (ST.node (SV.tup []) (ST.node (SV.tup []) ST.nil ST.nil) (ST.node (SV.tup []) ST.nil ST.nil)) (ST.node (SV.tup []) (ST.node (SV.tup []) ST.nil ST.nil)
    ST.nil)) (ST.node (SV.tup []) (ST.node (SV.tup []) (ST.node (SV.tup []) ST.nil ST.nil) ST.nil) (ST.node (SV.tup []) (ST.node (SV.tup []) ST.nil ST.nil) ST.nil)))) (ST.node (SV.tup
    []) (ST.node (SV.tup []) (ST.node (SV.c (SC.int false IntKind.i64 ((↑nn : Int) % (12 : Int)) (Bd.w (0 : Int) (11 : Int) (mod_bd Bd.of._proof_1 rfl)))) (ST.node (SV.tup []) (ST.node
    (SV.tup []) ST.nil ST.nil) (ST.node (SV.tup []) ST.nil ST.nil)) (ST.node (SV.tup []) (ST.node (SV.tup []) ST.nil ST.nil) ST.nil)) (ST.node (SV.tup []) (ST.node (SV.tup []) (ST.node
    (SV.tup []) ST.nil ST.nil) (ST.node (SV.tup []) ST.nil ST.nil)) (ST.node (SV.tup []) (ST.node (SV.tup []) ST.nil ST.nil) ST.nil))) (ST.node (SV.c (SC.int false IntKind.i64 (↑plen :
    Int))) (ST.node (SV.tup []) (ST.node (SV.tup []) (ST.node (SV.tup []) ST.nil ST.nil) (ST.node (SV.tup []) ST.nil ST.nil)) (ST.node (SV.tup []) (ST.node (SV.tup []) ST.nil ST.nil)
    ST.nil)) (ST.node (SV.tup []) (ST.node (SV.tup []) (ST.node (SV.tup []) ST.nil ST.nil) ST.nil) (ST.node (SV.tup []) (ST.node (SV.tup []) ST.nil ST.nil) ST.nil))))))) []) (Mem.mk
    [((0 : Nat), SO.seen W), ((13 : Nat), SO.ext (HO.old (E := XP) (H := clmH) (HO.obj (E := XE) (H := parH) [] (PA.new (60000 : Nat))))), ((20 : Nat), SO.vals (90 : Nat) (1 : Nat) ((2
    : Int) + (↑nn : Int) % (12 : Int)).toNat ((2 : Int) + (↑nn : Int) % (12 : Int)).toNat fun (x : Nat) => (Value.pointer none).cells.toList), ((23 : Nat), SO.ints (3 : Nat) IntKind.i64
    ((2 : Int) + (↑nn : Int) % (12 : Int)).toNat ((2 : Int) + (↑nn : Int) % (12 : Int)).toNat fun (x : Nat) => (0 : Int)), ((25 : Nat), SO.ints (3 : Nat) IntKind.i64 ((2 : Int) + (↑nn :
    Int) % (12 : Int)).toNat ((2 : Int) + (↑nn : Int) % (12 : Int)).toNat fun (x : Nat) => (0 : Int))] (22 : Nat)) (Scr.ghost (9 : Nat) (nilsG (8 : Nat) [(5 : Nat)]) (Scr.inv (liveL [(5
    : Nat), (7 : Nat), (8 : Nat), (9 : Nat), (10 : Nat), (46 : Nat), (47 : Nat), (48 : Nat)]) allN (F1 ((2 : Nat) + nn % (12 : Nat)) plen) iF1 (fun (y : F1 ((2 : Nat) + nn % (12 : Nat))
    plen) => plen - y.k) fun (y : F1 ((2 : Nat) + nn % (12 : Nat)) plen) => (Scr.cut (24 : Nat) (liveL [(5 : Nat), (7 : Nat), (8 : Nat), (9 : Nat), (10 : Nat), (46 : Nat), (47 : Nat),
    (48 : Nat)]) allN (FE y) iFE (Scr.ghost (13 : Nat) (focusG (8 : Nat) (13 : Nat)) (Scr.cut (24 : Nat) (liveL [(5 : Nat), (7 : Nat), (8 : Nat), (9 : Nat), (10 : Nat), (46 : Nat), (47
    : Nat), (48 : Nat)]) allN (FM y) iFM (Scr.ghost (9999 : Nat) (foldG (8 : Nat)) Scr.nil) loopF2)) fun (x : FE y) => Scr.nil).both Scr.nil))) ∧ True → (2 : Int) + (↑nn : Int) % (12 :
    Int) = (2 : Int) + (↑nn : Int) % (12 : Int) ∧ (0 : Int) ≤ (2 : Int) + (↑nn : Int) % (12 : Int) ∧ (8 : Int) * ((2 : Int) + (↑nn : Int) % (12 : Int)) ≤ (281474976710656 : Int) ∧ (2 :
    Int) + (↑nn : Int) % (12 : Int) ≤ (1000000000 : Int) ∧ ((2 : Int) + (↑nn : Int) % (12 : Int) = (2 : Int) + (↑nn : Int) % (12 : Int) ∧ (0 : Int) ≤ (2 : Int) + (↑nn : Int) % (12 :
    Int) ∧ (8 : Int) * ((2 : Int) + (↑nn : Int) % (12 : Int)) ≤ (281474976710656 : Int) ∧ (2 : Int) + (↑nn : Int) % (12 : Int) ≤ (1000000000 : Int) ∧ K (SF.mk (215 : Nat) (ST.node (SV.c
    (SC.int false IntKind.u8 (↑nn : Int))) (ST.node (SV.c (SC.sliv pa false plen pcap)) (ST.node (SV.tup []) (ST.node (SV.c (SC.int false IntKind.i64 ((2 : Int) + (↑nn : Int) % (12 :
    Int)) (Bd.w (2 : Int) (13 : Int) (Bd.add._proof_1 (2 : Int) (2 : Int) Bd.of._proof_1 (0 : Int) ((12 : Int) - (1 : Int)) (mod_bd Bd.of._proof_1 rfl))))) (ST.node (SV.tup []) (ST.node
    (SV.c (SC.boo true false)) (ST.node (SV.tup []) (ST.node (SV.tup []) ST.nil ST.nil) (ST.node (SV.tup []) ST.nil ST.nil)) (ST.node (SV.tup []) (ST.node (SV.tup []) ST.nil ST.nil)
    ST.nil)) (ST.node (SV.tup []) (ST.node (SV.tup []) (ST.node (SV.tup []) ST.nil ST.nil) (ST.node (SV.tup []) ST.nil ST.nil)) (ST.node (SV.tup []) (ST.node (SV.tup []) ST.nil ST.nil)
    ST.nil))) (ST.node (SV.tup []) (ST.node (SV.c (SC.int false IntKind.i64 ((2 : Int) + (↑nn : Int) % (12 : Int)) (Bd.w (2 : Int) (13 : Int) (Bd.add._proof_1 (2 : Int) (2 : Int)
    Bd.of._proof_1 (0 : Int) ((12 : Int) - (1 : Int)) (mod_bd Bd.of._proof_1 rfl))))) (ST.node (SV.tup []) (ST.node (SV.tup []) ST.nil ST.nil) (ST.node (SV.tup []) ST.nil ST.nil))
    (ST.node (SV.tup []) (ST.node (SV.tup []) ST.nil ST.nil) ST.nil)) (ST.node (SV.tup []) (ST.node (SV.tup []) (ST.node (SV.tup []) ST.nil ST.nil) ST.nil) (ST.node (SV.tup []) (ST.node
    (SV.tup []) ST.nil ST.nil) ST.nil)))) (ST.node (SV.tup []) (ST.node (SV.tup []) (ST.node (SV.c (SC.int true IntKind.i64 (0 : Int))) (ST.node (SV.tup []) (ST.node (SV.tup []) ST.nil
    ST.nil) (ST.node (SV.tup []) ST.nil ST.nil)) (ST.node (SV.tup []) (ST.node (SV.tup []) ST.nil ST.nil) ST.nil)) (ST.node (SV.tup []) (ST.node (SV.tup []) (ST.node (SV.tup []) ST.nil
    ST.nil) (ST.node (SV.tup []) ST.nil ST.nil)) (ST.node (SV.tup []) (ST.node (SV.tup []) ST.nil ST.nil) ST.nil))) (ST.node (SV.c (SC.boo true true)) (ST.node (SV.c (SC.sli (23 : Nat)
    (1 : Nat) true (0 : Nat) false ((2 : Int) + (↑nn : Int) % (12 : Int)).toNat ((2 : Int) + (↑nn : Int) % (12 : Int)).toNat)) (ST.node (SV.tup []) (ST.node (SV.tup []) ST.nil ST.nil)
    (ST.node (SV.tup []) ST.nil ST.nil)) (ST.node (SV.tup []) (ST.node (SV.tup []) ST.nil ST.nil) ST.nil)) (ST.node (SV.tup []) (ST.node (SV.tup []) (ST.node (SV.tup []) ST.nil ST.nil)
    ST.nil) (ST.node (SV.tup []) (ST.node (SV.tup []) ST.nil ST.nil) ST.nil))))) (ST.node (SV.c (SC.ptr (13 : Nat) (0 : Nat))) (ST.node (SV.c (SC.sli (23 : Nat) (1 : Nat) true (0 : Nat)
    false ((2 : Int) + (↑nn : Int) % (12 : Int)).toNat ((2 : Int) + (↑nn : Int) % (12 : Int)).toNat)) (ST.node (SV.tup []) (ST.node (SV.tup [(false, [SC.ptr (13 : Nat) (0 : Nat)]),
    (false, [SC.int true IntKind.i64 (0 : Int)])]) (ST.node (SV.tup []) (ST.node (SV.tup []) ST.nil ST.nil) (ST.node (SV.tup []) ST.nil ST.nil)) (ST.node (SV.tup []) (ST.node (SV.tup
    []) ST.nil ST.nil) ST.nil)) (ST.node (SV.tup []) (ST.node (SV.tup []) (ST.node (SV.tup []) ST.nil ST.nil) (ST.node (SV.tup []) ST.nil ST.nil)) (ST.node (SV.tup []) (ST.node (SV.tup
    []) ST.nil ST.nil) ST.nil))) (ST.node (SV.tup []) (ST.node (SV.c (SC.sli (20 : Nat) (1 : Nat) true (0 : Nat) false ((2 : Int) + (↑nn : Int) % (12 : Int)).toNat ((2 : Int) + (↑nn :
    Int) % (12 : Int)).toNat)) (ST.node (SV.tup []) (ST.node (SV.tup []) ST.nil ST.nil) (ST.node (SV.tup []) ST.nil ST.nil)) (ST.node (SV.tup []) (ST.node (SV.tup []) ST.nil ST.nil)
    ST.nil)) (ST.node (SV.tup []) (ST.node (SV.tup []) (ST.node (SV.tup []) ST.nil ST.nil) ST.nil) (ST.node (SV.tup []) (ST.node (SV.tup []) ST.nil ST.nil) ST.nil)))) (ST.node (SV.tup
    []) (ST.node (SV.tup []) (ST.node (SV.c (SC.int false IntKind.u8 ((↑nn : Int) % (12 : Int)) (Bd.w (0 : Int) (11 : Int) (mod_bd Bd.of._proof_1 rfl)))) (ST.node (SV.tup []) (ST.node
    (SV.tup []) ST.nil ST.nil) (ST.node (SV.tup []) ST.nil ST.nil)) (ST.node (SV.tup []) (ST.node (SV.tup []) ST.nil ST.nil) ST.nil)) (ST.node (SV.tup []) (ST.node (SV.tup []) (ST.node
    (SV.tup []) ST.nil ST.nil) (ST.node (SV.tup []) ST.nil ST.nil)) (ST.node (SV.tup []) (ST.node (SV.tup []) ST.nil ST.nil) ST.nil))) (ST.node (SV.c (SC.sliv pa false plen pcap))
    (ST.node (SV.c (SC.sli (25 : Nat) (1 : Nat) true (0 : Nat) false ((2 : Int) + (↑nn : Int) % (12 : Int)).toNat ((2 : Int) + (↑nn : Int) % (12 : Int)).toNat)) (ST.node (SV.tup [])
    (ST.node (SV.tup []) ST.nil ST.nil) (ST.node (SV.tup []) ST.nil ST.nil)) (ST.node (SV.tup []) (ST.node (SV.tup []) ST.nil ST.nil) ST.nil)) (ST.node (SV.tup []) (ST.node (SV.tup [])
    (ST.node (SV.tup []) ST.nil ST.nil) ST.nil) (ST.node (SV.tup []) (ST.node (SV.tup []) ST.nil ST.nil) ST.nil)))))) (ST.node (SV.tup []) (ST.node (SV.c (SC.boo true false)) (ST.node
    (SV.c (SC.sli (20 : Nat) (1 : Nat) true (0 : Nat) false ((2 : Int) + (↑nn : Int) % (12 : Int)).toNat ((2 : Int) + (↑nn : Int) % (12 : Int)).toNat)) (ST.node (SV.tup []) (ST.node
    (SV.tup [(false, [SC.ptr (13 : Nat) (0 : Nat)]), (false, [SC.int true IntKind.i64 (0 : Int)])]) (ST.node (SV.tup []) (ST.node (SV.tup []) ST.nil ST.nil) (ST.node (SV.tup []) ST.nil
    ST.nil)) (ST.node (SV.tup []) (ST.node (SV.tup []) ST.nil ST.nil) ST.nil)) (ST.node (SV.tup []) (ST.node (SV.tup []) (ST.node (SV.tup []) ST.nil ST.nil) (ST.node (SV.tup []) ST.nil
    ST.nil)) (ST.node (SV.tup []) (ST.node (SV.tup []) ST.nil ST.nil) ST.nil))) (ST.node (SV.tup []) (ST.node (SV.c (SC.int false IntKind.i64 ((2 : Int) + (↑nn : Int) % (12 : Int))
    (Bd.w (2 : Int) (13 : Int) (Bd.add._proof_1 (2 : Int) (2 : Int) Bd.of._proof_1 (0 : Int) ((12 : Int) - (1 : Int)) (mod_bd Bd.of._proof_1 rfl))))) (ST.node (SV.tup []) (ST.node
    (SV.tup []) ST.nil ST.nil) (ST.node (SV.tup []) ST.nil ST.nil)) (ST.node (SV.tup []) (ST.node (SV.tup []) ST.nil ST.nil) ST.nil)) (ST.node (SV.tup []) (ST.node (SV.tup []) (ST.node
    (SV.tup []) ST.nil ST.nil) ST.nil) (ST.node (SV.tup []) (ST.node (SV.tup []) ST.nil ST.nil) ST.nil)))) (ST.node (SV.tup []) (ST.node (SV.tup []) (ST.node (SV.c (SC.int false
    IntKind.u8 (↑nn : Int))) (ST.node (SV.tup []) (ST.node (SV.tup []) ST.nil ST.nil) (ST.node (SV.tup []) ST.nil ST.nil)) (ST.node (SV.tup []) (ST.node (SV.tup []) ST.nil ST.nil)
    ST.nil)) (ST.node (SV.tup []) (ST.node (SV.tup []) (ST.node (SV.tup []) ST.nil ST.nil) (ST.node (SV.tup []) ST.nil ST.nil)) (ST.node (SV.tup []) (ST.node (SV.tup []) ST.nil ST.nil)
    ST.nil))) (ST.node (SV.c (SC.boo true false)) (ST.node (SV.c (SC.int false IntKind.i64 ((2 : Int) + (↑nn : Int) % (12 : Int)) (Bd.w (2 : Int) (13 : Int) (Bd.add._proof_1 (2 : Int)
    (2 : Int) Bd.of._proof_1 (0 : Int) ((12 : Int) - (1 : Int)) (mod_bd Bd.of._proof_1 rfl))))) (ST.node (SV.tup []) (ST.node (SV.tup []) ST.nil ST.nil) (ST.node (SV.tup []) ST.nil
    ST.nil)) (ST.node (SV.tup []) (ST.node (SV.tup []) ST.nil ST.nil) ST.nil)) (ST.node (SV.tup []) (ST.node (SV.tup []) (ST.node (SV.tup []) ST.nil ST.nil) ST.nil) (ST.node (SV.tup [])
    (ST.node (SV.tup []) ST.nil ST.nil) ST.nil))))) (ST.node (SV.c (SC.int true IntKind.i64 (0 : Int))) (ST.node (SV.c (SC.sli (25 : Nat) (1 : Nat) true (0 : Nat) false ((2 : Int) +
    (↑nn : Int) % (12 : Int)).toNat ((2 : Int) + (↑nn : Int) % (12 : Int)).toNat)) (ST.node (SV.tup []) (ST.node (SV.c (SC.ptr (13 : Nat) (0 : Nat))) (ST.node (SV.tup []) (ST.node
    (SV.tup []) ST.nil ST.nil) (ST.node (SV.tup []) ST.nil ST.nil)) (ST.node (SV.tup []) (ST.node (SV.tup []) ST.nil ST.nil) ST.nil)) (ST.node (SV.tup []) (ST.node (SV.tup []) (ST.node
    (SV.tup []) ST.nil ST.nil) (ST.node (SV.tup []) ST.nil ST.nil)) (ST.node (SV.tup []) (ST.node (SV.tup []) ST.nil ST.nil) ST.nil))) (ST.node (SV.tup []) (ST.node (SV.c (SC.int false
    IntKind.i64 ((2 : Int) + (↑nn : Int) % (12 : Int)) (Bd.w (2 : Int) (13 : Int) (Bd.add._proof_1 (2 : Int) (2 : Int) Bd.of._proof_1 (0 : Int) ((12 : Int) - (1 : Int)) (mod_bd
    Bd.of._proof_1 rfl))))) (ST.node (SV.tup []) (ST.node (SV.tup []) ST.nil ST.nil) (ST.node (SV.tup []) ST.nil ST.nil)) (ST.node (SV.tup []) (ST.node (SV.tup []) ST.nil ST.nil)
    ST.nil)) (ST.node (SV.tup []) (ST.node (SV.tup []) (ST.node (SV.tup []) ST.nil ST.nil) ST.nil) (ST.node (SV.tup []) (ST.node (SV.tup []) ST.nil ST.nil) ST.nil)))) (ST.node (SV.tup
    []) (ST.node (SV.tup []) (ST.node (SV.c (SC.int false IntKind.i64 ((↑nn : Int) % (12 : Int)) (Bd.w (0 : Int) (11 : Int) (mod_bd Bd.of._proof_1 rfl)))) (ST.node (SV.tup []) (ST.node
    (SV.tup []) ST.nil ST.nil) (ST.node (SV.tup []) ST.nil ST.nil)) (ST.node (SV.tup []) (ST.node (SV.tup []) ST.nil ST.nil) ST.nil)) (ST.node (SV.tup []) (ST.node (SV.tup []) (ST.node
    (SV.tup []) ST.nil ST.nil) (ST.node (SV.tup []) ST.nil ST.nil)) (ST.node (SV.tup []) (ST.node (SV.tup []) ST.nil ST.nil) ST.nil))) (ST.node (SV.c (SC.int false IntKind.i64 (↑plen :
    Int))) (ST.node (SV.tup []) (ST.node (SV.tup []) (ST.node (SV.tup []) ST.nil ST.nil) (ST.node (SV.tup []) ST.nil ST.nil)) (ST.node (SV.tup []) (ST.node (SV.tup []) ST.nil ST.nil)
    ST.nil)) (ST.node (SV.tup []) (ST.node (SV.tup []) (ST.node (SV.tup []) ST.nil ST.nil) ST.nil) (ST.node (SV.tup []) (ST.node (SV.tup []) ST.nil ST.nil) ST.nil))))))) []) (Mem.mk
    [((0 : Nat), SO.seen W), ((13 : Nat), SO.ext (HO.old (E := XP) (H := clmH) (HO.obj (E := XE) (H := parH) [] (PA.new (60000 : Nat))))), ((20 : Nat), SO.vals (90 : Nat) (1 : Nat) ((2
    : Int) + (↑nn : Int) % (12 : Int)).toNat ((2 : Int) + (↑nn : Int) % (12 : Int)).toNat fun (x : Nat) => (Value.pointer none).cells.toList), ((23 : Nat), SO.ints (3 : Nat) IntKind.i64
    ((2 : Int) + (↑nn : Int) % (12 : Int)).toNat ((2 : Int) + (↑nn : Int) % (12 : Int)).toNat fun (x : Nat) => (0 : Int)), ((25 : Nat), SO.ints (3 : Nat) IntKind.i64 ((2 : Int) + (↑nn :
    Int) % (12 : Int)).toNat ((2 : Int) + (↑nn : Int) % (12 : Int)).toNat fun (x : Nat) => (0 : Int))] (22 : Nat)) (Scr.ghost (9 : Nat) (nilsG (8 : Nat) [(5 : Nat)]) (Scr.inv (liveL [(5
    : Nat), (7 : Nat), (8 : Nat), (9 : Nat), (10 : Nat), (46 : Nat), (47 : Nat), (48 : Nat)]) allN (F1 ((2 : Nat) + nn % (12 : Nat)) plen) iF1 (fun (y : F1 ((2 : Nat) + nn % (12 : Nat))
    plen) => plen - y.k) fun (y : F1 ((2 : Nat) + nn % (12 : Nat)) plen) => (Scr.cut (24 : Nat) (liveL [(5 : Nat), (7 : Nat), (8 : Nat), (9 : Nat), (10 : Nat), (46 : Nat), (47 : Nat),
    (48 : Nat)]) allN (FE y) iFE (Scr.ghost (13 : Nat) (focusG (8 : Nat) (13 : Nat)) (Scr.cut (24 : Nat) (liveL [(5 : Nat), (7 : Nat), (8 : Nat), (9 : Nat), (10 : Nat), (46 : Nat), (47
    : Nat), (48 : Nat)]) allN (FM y) iFM (Scr.ghost (9999 : Nat) (foldG (8 : Nat)) Scr.nil) loopF2)) fun (x : FE y) => Scr.nil).both Scr.nil))) ∧ True) ∧ True)) := by
  kernel_rfl
theorem claimFew_run (W : World) (nn : Nat) (pa : Option Addr) (plen pcap : Nat) (hc : nn ≤ 255 ∧ (0 < plen → pa.isSome = true) ∧ (∀ j, j < plen → Seen .u8 W (addOpt pa j))) : Run (callN Try.prog (tblCF : List (Smry Try.prog XM)) (fun _ _ => false) 100 20 6 [.c (.int false .u8 (nn : Int)), .c (.sliv pa false plen pcap)] ⟨[(0, .seen W)], 1⟩ (scrF (2 + nn % 12) plen) (fun v m _ => retSeen W v m)) := by
  constructor
  rw [claimFew_vc]
  obtain ⟨hnn, hps, hpx⟩ := hc
  have u8 : ∀ x, 0 ≤ seenInt .u8 W x ∧ seenInt .u8 W x ≤ 255 := fun x => seenInt_bd .u8 W x
  have hcI : (2 + (nn : Int) % 12).toNat = 2 + nn % 12 := by omega
  have hcI2 : (2 + (nn : Int) % 12) = ((2 + nn % 12 : Nat) : Int) := by omega
  refine ⟨fun _ => ⟨rfl, rfl⟩, fun hp => ?_⟩
  have h800 : plen ≤ 800 := by have := of_decide_eq_false hp; omega
  simp only [hcI2, Int.toNat_natCast, addO_eq, Nat.zero_add]
  have h13 : 2 + nn % 12 ≤ 13 := by omega
  have h2 : 2 ≤ 2 + nn % 12 := by omega
  clear hcI hcI2
  generalize 2 + nn % 12 = cnt at *
  repeat' first
    | with_reducible apply And.intro
    | with_reducible exact trivial
    | with_reducible exact Eq.refl _
    | (refine fun (K : KO XM) => ?_; simp only [eq_self, true_and, and_true, imp_self, implies_true]; done)
    | (refine fun (K : KO XM) => ?_; simp only [eq_self, true_and, and_true, imp_self, implies_true]; exact id)
  all_goals try first
    | omega
    | exact fun _ _ => trivial
    | exact fun _ _ => rfl
  · obtain ⟨y', e1, e2, e3, e4, e5⟩ := f1_zero cnt plen
    have e6 : (y'.k : Int) = 0 := by rw [e1]; rfl
    repeat' first
      | with_reducible apply And.intro
      | with_reducible exact trivial
      | with_reducible exact Eq.refl _
      | with_reducible assumption
      | (with_reducible refine Exists.intro y' ?_)
      | omega
      | exact fun _ _ => trivial
      | exact fun _ _ => rfl
      | exact fun j hj => congrArg (fun n : Nat => (n : Int)) (e4 j hj)
      | exact fun j hj => congrArg (fun n : Nat => (n : Int)) (e5 j hj)
  · intro y ρ
    refine ⟨fun hlt => ?_, fun hge => ?_⟩
    · have hk : y.k < plen := by have := of_decide_eq_true hlt; omega
      obtain ⟨i, hi1, hi2⟩ := mod_slot cnt (u8 (addOpt pa y.k)).1 (by omega)
      simp only [hi1, Int.toNat_natCast]
      have ho : ∀ i, y.mo i = y.mo i := fun _ => rfl
      refine ⟨?_, ?_⟩
      · repeat' first
          | with_reducible apply And.intro
          | with_reducible exact trivial
          | with_reducible exact Eq.refl _
          | (refine fun (K : KO XM) => ?_; simp only [eq_self, true_and, and_true, imp_self, implies_true]; done)
          | (refine fun (K : KO XM) => ?_; simp only [eq_self, true_and, and_true, imp_self, implies_true]; exact id)
        all_goals try first
          | omega
          | exact hps (by omega)
          | exact hpx _ hk
        intro g
        refine ⟨fun hn => ?_, fun st hst => ?_⟩
        · obtain ⟨m, e1, e2, e3, e4⟩ := y.come hi2 hn (HO.obj (E := XE) (H := parH) [] y.x)
          repeat' first
            | with_reducible apply And.intro
            | with_reducible exact trivial
            | with_reducible exact Eq.refl _
            | (refine fun (K : KO XM) => ?_; simp only [eq_self, true_and, and_true, imp_self, implies_true]; done)
            | (refine fun (K : KO XM) => ?_; simp only [eq_self, true_and, and_true, imp_self, implies_true]; exact id)
          all_goals try first
            | omega
            | exact Int.NonNeg.mk _
            | (rw [Int.add_sub_cancel]; exact Int.NonNeg.mk _)
          · repeat' first
              | with_reducible apply And.intro
              | with_reducible exact trivial
              | (with_reducible refine Exists.intro m ?_)
              | with_reducible exact Eq.refl _
              | (refine fun (K : KO XM) => ?_; simp only [eq_self, true_and, and_true, imp_self, implies_true]; done)
              | (refine fun (K : KO XM) => ?_; simp only [eq_self, true_and, and_true, imp_self, implies_true]; exact id)
            all_goals first
              | exact e1
              | exact e2
              | exact fun j hj => by rw [e3 j hj]; split <;> rfl
              | exact fun j hj => by rw [e4 j hj]; split <;> rfl
          · clear e1 e2 e3 e4 m
            intro m ρ
            refine ⟨⟨⟨0, Nat.zero_le _⟩, ?_⟩, fun q ρ => ?_⟩
            · repeat' first
                | with_reducible apply And.intro
                | with_reducible exact trivial
                | with_reducible exact Eq.refl _
                | (refine fun (K : KO XM) => ?_; simp only [eq_self, true_and, and_true, imp_self, implies_true]; done)
                | (refine fun (K : KO XM) => ?_; simp only [eq_self, true_and, and_true, imp_self, implies_true]; exact id)
              all_goals first
                | exact rfl
                | exact fun _ _ => trivial
            obtain ⟨q, hq0⟩ := q
            have hth := nAt_le (pos := posF m.c) (r := 0) q
            dsimp only
            refine ⟨fun hlt => ?_, fun hge => ?_⟩
            · have hq : q < cnt := by have := of_decide_eq_true hlt; omega
              repeat' first
                | with_reducible apply And.intro
                | with_reducible exact trivial
                | with_reducible exact Eq.refl _
                | (refine fun (K : KO XM) => ?_; simp only [eq_self, true_and, and_true, imp_self, implies_true]; done)
                | (refine fun (K : KO XM) => ?_; simp only [eq_self, true_and, and_true, imp_self, implies_true]; exact id)
              all_goals try omega
              intro g
              refine ⟨fun hn => ?_, fun st hst => ?_⟩
              · have ea := nAt_none hn
                repeat' first
                  | with_reducible apply And.intro
                  | with_reducible exact trivial
                  | with_reducible exact Eq.refl _
                  | (refine fun (K : KO XM) => ?_; simp only [eq_self, true_and, and_true, imp_self, implies_true]; done)
                  | (refine fun (K : KO XM) => ?_; simp only [eq_self, true_and, and_true, imp_self, implies_true]; exact id)
                all_goals try omega
                refine ⟨⟨q + 1, hq⟩, ?_⟩
                repeat' first
                  | with_reducible apply And.intro
                  | with_reducible exact trivial
                  | with_reducible exact Eq.refl _
                  | (refine fun (K : KO XM) => ?_; simp only [eq_self, true_and, and_true, imp_self, implies_true]; done)
                  | (refine fun (K : KO XM) => ?_; simp only [eq_self, true_and, and_true, imp_self, implies_true]; exact id)
                all_goals first
                  | omega
                  | (show ((q + 1 : Nat) : Int) = (q : Int) + 1; rfl)
                  | (show cnt - (q + 1) < cnt - q; omega)
                  | (show ((nAt (posF m.c) 0 (q + 1) : Nat) : Int) = _; rw [ea])
                  | exact fun _ _ => trivial
                  | exact same_none hn
              · have ea := nAt_some hst
                repeat' first
                  | with_reducible apply And.intro
                  | with_reducible exact trivial
                  | with_reducible exact Eq.refl _
                  | (refine fun (K : KO XM) => ?_; simp only [eq_self, true_and, and_true, imp_self, implies_true]; done)
                  | (refine fun (K : KO XM) => ?_; simp only [eq_self, true_and, and_true, imp_self, implies_true]; exact id)
                all_goals try omega
                refine ⟨⟨q + 1, hq⟩, ?_⟩
                repeat' first
                  | with_reducible apply And.intro
                  | with_reducible exact trivial
                  | with_reducible exact Eq.refl _
                  | (refine fun (K : KO XM) => ?_; simp only [eq_self, true_and, and_true, imp_self, implies_true]; done)
                  | (refine fun (K : KO XM) => ?_; simp only [eq_self, true_and, and_true, imp_self, implies_true]; exact id)
                all_goals first
                  | omega
                  | (show ((q + 1 : Nat) : Int) = (q : Int) + 1; rfl)
                  | (show cnt - (q + 1) < cnt - q; omega)
                  | (show ((nAt (posF m.c) 0 (q + 1) : Nat) : Int) = _; rw [ea]; rfl)
                  | exact fun _ _ => trivial
                  | exact same_some hst
            · have hqe : q = cnt := by have := of_decide_eq_false hge; omega
              refine ⟨?_, fun u ρ => ⟨fun hlt => ?_, fun hge2 => ?_⟩⟩
              · obtain ⟨y', e1, e2, e3⟩ := F3.zero m (nAt (posF m.c) 0 q)
                have e4 : (y'.j : Int) = 0 := by rw [e1]; rfl
                repeat' first
                  | with_reducible apply And.intro
                  | with_reducible exact trivial
                  | with_reducible exact Eq.refl _
                  | (with_reducible refine Exists.intro y' ?_)
                  | with_reducible assumption
                  | omega
                all_goals first
                  | exact fun _ _ => trivial
                  | exact fun j hj => by rw [e2 j hj]
                  | exact fun j hj => by rw [e3 j hj]; rfl
              · have hj : u.j < cnt := by have := of_decide_eq_true hlt; omega
                repeat' first
                  | with_reducible apply And.intro
                  | with_reducible exact trivial
                  | with_reducible exact Eq.refl _
                  | (refine fun (K : KO XM) => ?_; simp only [eq_self, true_and, and_true, imp_self, implies_true]; done)
                  | (refine fun (K : KO XM) => ?_; simp only [eq_self, true_and, and_true, imp_self, implies_true]; exact id)
                all_goals try omega
                intro g
                refine ⟨fun hn => ?_, fun st hst => ?_⟩
                · obtain ⟨y', e1, e2, e3, e4⟩ := u.none hj hn
                  repeat' first
                    | with_reducible apply And.intro
                    | with_reducible exact trivial
                    | with_reducible exact Eq.refl _
                    | (with_reducible refine Exists.intro y' ?_)
                    | with_reducible assumption
                    | omega
                  all_goals first
                    | exact same_none hn
                    | exact fun _ _ => trivial
                    | exact fun j hj => by rw [e3 j hj]
                    | exact fun j hj => by rw [e4 j hj]
                · obtain ⟨k1, k2, k3⟩ := u.slot h13 hj hst
                  cases hg : st.got with
                  | true =>
                    obtain ⟨z0, y', e1, e2, e3, e4⟩ := u.got h13 hj hst hg (by omega)
                    simp only [hg, if_true, Int.toNat_natCast]
                    repeat' first
                      | with_reducible apply And.intro
                      | with_reducible exact trivial
                      | with_reducible exact Eq.refl _
                      | (refine fun (K : KO XM) => ?_; simp only [eq_self, true_and, and_true, imp_self, implies_true]; done)
                      | (refine fun (K : KO XM) => ?_; simp only [eq_self, true_and, and_true, imp_self, implies_true]; exact id)
                      | (intro h; exfalso; exact absurd h (by decide))
                      | (intro h; exfalso; have h := of_decide_eq_true h; omega)
                      | (intro h; exfalso; have h := of_decide_eq_false h; omega)
                      | intro _
                    all_goals first
                      | omega
                      | exact s1
                      | exact ⟨s1, s3⟩
                      | exact s2
                      | exact s3
                      | exact k1
                      | exact hph
                      | (repeat' first
                           | with_reducible apply And.intro
                           | with_reducible exact trivial
                           | with_reducible exact Eq.refl _
                           | (with_reducible refine Exists.intro y' ?_)
                           | with_reducible assumption
                           | omega
                         all_goals first
                          | exact same_some hst
                          | exact fun _ _ => trivial
                          | exact fun j hj => by rw [e3 j hj]; split <;> omega
                          | exact fun j hj => by rw [e4 j hj]; split <;> omega)
                  | false =>
                    obtain ⟨y', e1, e2, e3, e4⟩ := u.not hj
                    simp only [hg, if_true, Int.toNat_natCast]
                    repeat' first
                      | with_reducible apply And.intro
                      | with_reducible exact trivial
                      | with_reducible exact Eq.refl _
                      | (refine fun (K : KO XM) => ?_; simp only [eq_self, true_and, and_true, imp_self, implies_true]; done)
                      | (refine fun (K : KO XM) => ?_; simp only [eq_self, true_and, and_true, imp_self, implies_true]; exact id)
                      | (intro h; exfalso; exact absurd h (by decide))
                      | (intro h; exfalso; have h := of_decide_eq_true h; omega)
                      | (intro h; exfalso; have h := of_decide_eq_false h; omega)
                      | intro _
                    all_goals first
                      | omega
                      | exact s1
                      | exact ⟨s1, s3⟩
                      | exact s2
                      | exact s3
                      | exact k1
                      | exact hph
                      | (repeat' first
                           | with_reducible apply And.intro
                           | with_reducible exact trivial
                           | with_reducible exact Eq.refl _
                           | (with_reducible refine Exists.intro y' ?_)
                           | with_reducible assumption
                           | omega
                         all_goals first
                          | exact same_some hst
                          | exact fun _ _ => trivial
                          | exact fun j hj => by rw [e3 j hj]; split <;> omega
                          | exact fun j hj => by rw [e4 j hj])
              · have hj : u.j = cnt := by have := of_decide_eq_false hge2; have := u.hj; omega
                subst hqe
                obtain ⟨y', e1, e2, e3, e4⟩ := u.last hj
                repeat' first
                  | with_reducible apply And.intro
                  | with_reducible exact trivial
                  | with_reducible exact Eq.refl _
                  | (with_reducible refine Exists.intro y' ?_)
                  | with_reducible assumption
                  | omega
                all_goals first
                  | exact fun j hj => by rw [e3 j hj]
                  | exact fun j hj => by rw [e4 j hj]
        · have hph : st.ph ≤ 5 := (y.hb.each i st hi2 hst).ph
          repeat' first
            | with_reducible apply And.intro
            | with_reducible exact trivial
            | with_reducible exact Eq.refl _
            | (refine fun (K : KO XM) => ?_; simp only [eq_self, true_and, and_true, imp_self, implies_true]; done)
            | (refine fun (K : KO XM) => ?_; simp only [eq_self, true_and, and_true, imp_self, implies_true]; exact id)
          all_goals try first
            | omega
            | exact hph
          · intro hd
            obtain ⟨g1, g2, g3, m, e1, e2, e3, e4⟩ := y.gone hi2 hst hd
            have hso : segO st.slot ≤ st.slot + 1 := Nat.sub_le _ _
            simp only [if_pos g1, Int.toNat_natCast, Int.add_zero]
            repeat' first
              | with_reducible apply And.intro
              | with_reducible exact trivial
              | (with_reducible refine Exists.intro m ?_)
              | with_reducible exact Eq.refl _
              | (refine fun (K : KO XM) => ?_; simp only [eq_self, true_and, and_true, imp_self, implies_true]; done)
              | (refine fun (K : KO XM) => ?_; simp only [eq_self, true_and, and_true, imp_self, implies_true]; exact id)
            all_goals first
              | omega
              | exact hph
              | exact g3
              | exact e1
              | exact e2
              | (intro h; exact absurd h (by rw [g1]; decide))
              | exact fun j hj => by rw [e3 j hj]
              | exact fun j hj => by rw [e4 j hj]
              | (intro _
                 repeat' first
                   | with_reducible apply And.intro
                   | with_reducible exact trivial
                   | (with_reducible refine Exists.intro m ?_)
                   | with_reducible exact Eq.refl _
                   | (refine fun (K : KO XM) => ?_; simp only [eq_self, true_and, and_true, imp_self, implies_true]; done)
                   | (refine fun (K : KO XM) => ?_; simp only [eq_self, true_and, and_true, imp_self, implies_true]; exact id)
                 all_goals first
                  | omega
                  | exact hph
                  | exact g3
                  | exact e1
                  | exact e2
                  | exact fun j hj => by rw [e3 j hj]
                  | exact fun j hj => by rw [e4 j hj])
          · intro hd
            repeat' first
              | with_reducible apply And.intro
              | with_reducible exact trivial
              | with_reducible exact Eq.refl _
              | (refine fun (K : KO XM) => ?_; simp only [eq_self, true_and, and_true, imp_self, implies_true]; done)
              | (refine fun (K : KO XM) => ?_; simp only [eq_self, true_and, and_true, imp_self, implies_true]; exact id)
            intro inv
            obtain ⟨s1, s2, s3, s4, s5, s6, s7, m0, m1⟩ := y.step h13 h800 inv hi2 hst hd
            have eX : clmXGF st (HO.obj (E := XE) (H := parH) [] y.x) = clmStepG st y.x := rfl
            have et1 : tlyZ y.x.t 4 = (y.x.t.swaps : Int) := wr64_small (by omega)
            have et2 : tlyZ (clmAG st y.x).t 4 = ((clmAG st y.x).t.swaps : Int) := wr64_small (by omega)
            simp only [eX, et1, et2]
            clear eX et1 et2
            generalize clmStepG st y.x = st' at *
            generalize clmAG st y.x = x' at *
            cases hg : st'.got with
            | true =>
              obtain ⟨b1, b2⟩ := s5 hg
              obtain ⟨m, e1, e2, e3, e4⟩ := m1 (.inl hg)
              simp only [hg, if_true, Int.toNat_natCast]
              repeat' first
                | with_reducible apply And.intro
                | with_reducible exact trivial
                | with_reducible exact Eq.refl _
                | (refine fun (K : KO XM) => ?_; simp only [eq_self, true_and, and_true, imp_self, implies_true]; done)
                | (refine fun (K : KO XM) => ?_; simp only [eq_self, true_and, and_true, imp_self, implies_true]; exact id)
                | (intro h; exfalso; exact absurd h (by decide))
                | (intro h; exfalso; have h := of_decide_eq_true h; omega)
                | (intro h; exfalso; have h := of_decide_eq_false h; omega)
                | intro _
              all_goals first
                | omega
                | exact s1
                | exact ⟨s1, s3⟩
                | exact s2
                | exact s3
                | exact k1
                | exact hph
                | (repeat' first
                     | with_reducible apply And.intro
                     | with_reducible exact trivial
                     | (with_reducible refine Exists.intro m ?_)
                     | with_reducible exact Eq.refl _
                     | (refine fun (K : KO XM) => ?_; simp only [eq_self, true_and, and_true, imp_self, implies_true]; done)
                     | (refine fun (K : KO XM) => ?_; simp only [eq_self, true_and, and_true, imp_self, implies_true]; exact id)
                   all_goals first
                    | exact e1
                    | exact e2
                    | exact fun j hj => by rw [e3 j hj]
                    | exact fun j hj => by rw [e4 j hj]; split <;> rfl)
            | false =>
              simp only [hg, if_true, Int.toNat_natCast]
              repeat' first
                | with_reducible apply And.intro
                | with_reducible exact trivial
                | with_reducible exact Eq.refl _
                | (refine fun (K : KO XM) => ?_; simp only [eq_self, true_and, and_true, imp_self, implies_true]; done)
                | (refine fun (K : KO XM) => ?_; simp only [eq_self, true_and, and_true, imp_self, implies_true]; exact id)
                | (intro h; exfalso; exact absurd h (by decide))
                | (intro h; exfalso; have h := of_decide_eq_true h; omega)
                | (intro h; exfalso; have h := of_decide_eq_false h; omega)
                | intro _
              all_goals first
                | omega
                | exact s1
                | exact ⟨s1, s3⟩
                | exact s2
                | exact s3
                | exact k1
                | exact hph
                | (rename st'.priv = 0 => hp0
                   rename decide ((x'.t.swaps : Int) > (y.x.t.swaps : Int)) = true => hsw
                   obtain ⟨m, e1, e2, e3, e4⟩ := m1 (.inr ⟨by have := of_decide_eq_true hsw; omega, hp0⟩)
                   repeat' first
                     | with_reducible apply And.intro
                     | with_reducible exact trivial
                     | (with_reducible refine Exists.intro m ?_)
                     | with_reducible exact Eq.refl _
                     | (refine fun (K : KO XM) => ?_; simp only [eq_self, true_and, and_true, imp_self, implies_true]; done)
                     | (refine fun (K : KO XM) => ?_; simp only [eq_self, true_and, and_true, imp_self, implies_true]; exact id)
                   all_goals first
                    | exact e1
                    | exact e2
                    | exact fun j hj => by rw [e3 j hj]
                    | exact fun j hj => by rw [e4 j hj]; split <;> rfl)
                | (obtain ⟨m, e1, e2, e3, e4⟩ := m0
                   repeat' first
                     | with_reducible apply And.intro
                     | with_reducible exact trivial
                     | (with_reducible refine Exists.intro m ?_)
                     | with_reducible exact Eq.refl _
                     | (refine fun (K : KO XM) => ?_; simp only [eq_self, true_and, and_true, imp_self, implies_true]; done)
                     | (refine fun (K : KO XM) => ?_; simp only [eq_self, true_and, and_true, imp_self, implies_true]; exact id)
                   all_goals first
                    | exact e1
                    | exact e2
                    | exact fun j hj => by rw [e3 j hj]
                    | exact fun j hj => by rw [e4 j hj])
          · clear hph hst st
            intro m ρ
            refine ⟨⟨⟨0, Nat.zero_le _⟩, ?_⟩, fun q ρ => ?_⟩
            · repeat' first
                | with_reducible apply And.intro
                | with_reducible exact trivial
                | with_reducible exact Eq.refl _
                | (refine fun (K : KO XM) => ?_; simp only [eq_self, true_and, and_true, imp_self, implies_true]; done)
                | (refine fun (K : KO XM) => ?_; simp only [eq_self, true_and, and_true, imp_self, implies_true]; exact id)
              all_goals first
                | exact rfl
                | exact fun _ _ => trivial
            obtain ⟨q, hq0⟩ := q
            have hth := nAt_le (pos := posF m.c) (r := 0) q
            dsimp only
            refine ⟨fun hlt => ?_, fun hge => ?_⟩
            · have hq : q < cnt := by have := of_decide_eq_true hlt; omega
              repeat' first
                | with_reducible apply And.intro
                | with_reducible exact trivial
                | with_reducible exact Eq.refl _
                | (refine fun (K : KO XM) => ?_; simp only [eq_self, true_and, and_true, imp_self, implies_true]; done)
                | (refine fun (K : KO XM) => ?_; simp only [eq_self, true_and, and_true, imp_self, implies_true]; exact id)
              all_goals try omega
              intro g
              refine ⟨fun hn => ?_, fun st hst => ?_⟩
              · have ea := nAt_none hn
                repeat' first
                  | with_reducible apply And.intro
                  | with_reducible exact trivial
                  | with_reducible exact Eq.refl _
                  | (refine fun (K : KO XM) => ?_; simp only [eq_self, true_and, and_true, imp_self, implies_true]; done)
                  | (refine fun (K : KO XM) => ?_; simp only [eq_self, true_and, and_true, imp_self, implies_true]; exact id)
                all_goals try omega
                refine ⟨⟨q + 1, hq⟩, ?_⟩
                repeat' first
                  | with_reducible apply And.intro
                  | with_reducible exact trivial
                  | with_reducible exact Eq.refl _
                  | (refine fun (K : KO XM) => ?_; simp only [eq_self, true_and, and_true, imp_self, implies_true]; done)
                  | (refine fun (K : KO XM) => ?_; simp only [eq_self, true_and, and_true, imp_self, implies_true]; exact id)
                all_goals first
                  | omega
                  | (show ((q + 1 : Nat) : Int) = (q : Int) + 1; rfl)
                  | (show cnt - (q + 1) < cnt - q; omega)
                  | (show ((nAt (posF m.c) 0 (q + 1) : Nat) : Int) = _; rw [ea])
                  | exact fun _ _ => trivial
                  | exact same_none hn
              · have ea := nAt_some hst
                repeat' first
                  | with_reducible apply And.intro
                  | with_reducible exact trivial
                  | with_reducible exact Eq.refl _
                  | (refine fun (K : KO XM) => ?_; simp only [eq_self, true_and, and_true, imp_self, implies_true]; done)
                  | (refine fun (K : KO XM) => ?_; simp only [eq_self, true_and, and_true, imp_self, implies_true]; exact id)
                all_goals try omega
                refine ⟨⟨q + 1, hq⟩, ?_⟩
                repeat' first
                  | with_reducible apply And.intro
                  | with_reducible exact trivial
                  | with_reducible exact Eq.refl _
                  | (refine fun (K : KO XM) => ?_; simp only [eq_self, true_and, and_true, imp_self, implies_true]; done)
                  | (refine fun (K : KO XM) => ?_; simp only [eq_self, true_and, and_true, imp_self, implies_true]; exact id)
                all_goals first
                  | omega
                  | (show ((q + 1 : Nat) : Int) = (q : Int) + 1; rfl)
                  | (show cnt - (q + 1) < cnt - q; omega)
                  | (show ((nAt (posF m.c) 0 (q + 1) : Nat) : Int) = _; rw [ea]; rfl)
                  | exact fun _ _ => trivial
                  | exact same_some hst
            · have hqe : q = cnt := by have := of_decide_eq_false hge; omega
              refine ⟨?_, fun u ρ => ⟨fun hlt => ?_, fun hge2 => ?_⟩⟩
              · obtain ⟨y', e1, e2, e3⟩ := F3.zero m (nAt (posF m.c) 0 q)
                have e4 : (y'.j : Int) = 0 := by rw [e1]; rfl
                repeat' first
                  | with_reducible apply And.intro
                  | with_reducible exact trivial
                  | with_reducible exact Eq.refl _
                  | (with_reducible refine Exists.intro y' ?_)
                  | with_reducible assumption
                  | omega
                all_goals first
                  | exact fun _ _ => trivial
                  | exact fun j hj => by rw [e2 j hj]
                  | exact fun j hj => by rw [e3 j hj]; rfl
              · have hj : u.j < cnt := by have := of_decide_eq_true hlt; omega
                repeat' first
                  | with_reducible apply And.intro
                  | with_reducible exact trivial
                  | with_reducible exact Eq.refl _
                  | (refine fun (K : KO XM) => ?_; simp only [eq_self, true_and, and_true, imp_self, implies_true]; done)
                  | (refine fun (K : KO XM) => ?_; simp only [eq_self, true_and, and_true, imp_self, implies_true]; exact id)
                all_goals try omega
                intro g
                refine ⟨fun hn => ?_, fun st hst => ?_⟩
                · obtain ⟨y', e1, e2, e3, e4⟩ := u.none hj hn
                  repeat' first
                    | with_reducible apply And.intro
                    | with_reducible exact trivial
                    | with_reducible exact Eq.refl _
                    | (with_reducible refine Exists.intro y' ?_)
                    | with_reducible assumption
                    | omega
                  all_goals first
                    | exact same_none hn
                    | exact fun _ _ => trivial
                    | exact fun j hj => by rw [e3 j hj]
                    | exact fun j hj => by rw [e4 j hj]
                · obtain ⟨k1, k2, k3⟩ := u.slot h13 hj hst
                  cases hg : st.got with
                  | true =>
                    obtain ⟨z0, y', e1, e2, e3, e4⟩ := u.got h13 hj hst hg (by omega)
                    simp only [hg, if_true, Int.toNat_natCast]
                    repeat' first
                      | with_reducible apply And.intro
                      | with_reducible exact trivial
                      | with_reducible exact Eq.refl _
                      | (refine fun (K : KO XM) => ?_; simp only [eq_self, true_and, and_true, imp_self, implies_true]; done)
                      | (refine fun (K : KO XM) => ?_; simp only [eq_self, true_and, and_true, imp_self, implies_true]; exact id)
                      | (intro h; exfalso; exact absurd h (by decide))
                      | (intro h; exfalso; have h := of_decide_eq_true h; omega)
                      | (intro h; exfalso; have h := of_decide_eq_false h; omega)
                      | intro _
                    all_goals first
                      | omega
                      | exact s1
                      | exact ⟨s1, s3⟩
                      | exact s2
                      | exact s3
                      | exact k1
                      | exact hph
                      | (repeat' first
                           | with_reducible apply And.intro
                           | with_reducible exact trivial
                           | with_reducible exact Eq.refl _
                           | (with_reducible refine Exists.intro y' ?_)
                           | with_reducible assumption
                           | omega
                         all_goals first
                          | exact same_some hst
                          | exact fun _ _ => trivial
                          | exact fun j hj => by rw [e3 j hj]; split <;> omega
                          | exact fun j hj => by rw [e4 j hj]; split <;> omega)
                  | false =>
                    obtain ⟨y', e1, e2, e3, e4⟩ := u.not hj
                    simp only [hg, if_true, Int.toNat_natCast]
                    repeat' first
                      | with_reducible apply And.intro
                      | with_reducible exact trivial
                      | with_reducible exact Eq.refl _
                      | (refine fun (K : KO XM) => ?_; simp only [eq_self, true_and, and_true, imp_self, implies_true]; done)
                      | (refine fun (K : KO XM) => ?_; simp only [eq_self, true_and, and_true, imp_self, implies_true]; exact id)
                      | (intro h; exfalso; exact absurd h (by decide))
                      | (intro h; exfalso; have h := of_decide_eq_true h; omega)
                      | (intro h; exfalso; have h := of_decide_eq_false h; omega)
                      | intro _
                    all_goals first
                      | omega
                      | exact s1
                      | exact ⟨s1, s3⟩
                      | exact s2
                      | exact s3
                      | exact k1
                      | exact hph
                      | (repeat' first
                           | with_reducible apply And.intro
                           | with_reducible exact trivial
                           | with_reducible exact Eq.refl _
                           | (with_reducible refine Exists.intro y' ?_)
                           | with_reducible assumption
                           | omega
                         all_goals first
                          | exact same_some hst
                          | exact fun _ _ => trivial
                          | exact fun j hj => by rw [e3 j hj]; split <;> omega
                          | exact fun j hj => by rw [e4 j hj])
              · have hj : u.j = cnt := by have := of_decide_eq_false hge2; have := u.hj; omega
                subst hqe
                obtain ⟨y', e1, e2, e3, e4⟩ := u.last hj
                repeat' first
                  | with_reducible apply And.intro
                  | with_reducible exact trivial
                  | with_reducible exact Eq.refl _
                  | (with_reducible refine Exists.intro y' ?_)
                  | with_reducible assumption
                  | omega
                all_goals first
                  | exact fun j hj => by rw [e3 j hj]
                  | exact fun j hj => by rw [e4 j hj]
      · intro z ρ
        obtain ⟨y', e1, e2, e3, e4, e5, e6⟩ := z.next hk
        repeat' first
          | with_reducible apply And.intro
          | with_reducible exact trivial
          | with_reducible exact Eq.refl _
          | (with_reducible refine Exists.intro y' ?_)
          | with_reducible assumption
          | omega
        all_goals first
          | exact fun j hj => by rw [e5 j hj]
          | exact fun j hj => by rw [e6 j hj]
    · repeat' first
        | with_reducible apply And.intro
        | with_reducible exact trivial
        | with_reducible exact Eq.refl _
        | (refine fun (K : KO XM) => ?_; simp only [eq_self, true_and, and_true, imp_self, implies_true]; done)
        | (refine fun (K : KO XM) => ?_; simp only [eq_self, true_and, and_true, imp_self, implies_true]; exact id)
      all_goals (rw [y.hb.seg.faults]; rfl)
end Go.Proofs.Ytnfpkadepomjjaa
