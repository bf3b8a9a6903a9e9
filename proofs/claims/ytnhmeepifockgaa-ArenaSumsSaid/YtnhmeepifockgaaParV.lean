/- Arenas told by what they hold (module Par): the tally; what the calls leave of lengths and counts; sums over listed blocks. -/
import Derived.Test.YtnhmeepifockgaaBaseP3
set_option linter.all false
namespace Go.Proofs.Ytnhmeepifockgaa
open Go Go.RowKit
set_option maxRecDepth 100000

def tallyC : ArCall where
  g := tallyX.g
  sh := fun x xs => match xs with
    | [] => some (True, true, .agg (tlySC (tlyZ x.t)), x)
    | _ => none
  okB := fun x xs c cb v y hs hb => by
    split at hs <;> cases hs
    trivial
  ok := fun x xs c cb v y hs ho => by
    split at hs <;> cases hs
    refine ⟨rfl, (by intro a ha; cases ha), fun b z w R H => ?_⟩
    refine (calls_smry (S := tallyX) (xs := []) (v := .agg (tlySC (tlyZ x.t))) (A := x.ar z) (B := x.ar z) ?_ (by intro a ha; cases ha) rfl H).mono fun e w' ⟨he, hs, hk⟩ => ⟨he, ⟨z, hs⟩, hk⟩
    simp only [tallyX, SH.get, if_true]
    exact ⟨rfl, rfl⟩
/-- What the loop keeps. -/
structure ASI (i : Nat) (x : PA) : Prop where
  fx : x.fx.length = 9
  few : x.bs.length ≤ i
  t : x.t.lays = x.t.frees + x.bs.length
theorem ASI.start {c : Int} : ASI 0 (PA.new c.toNat) := ⟨rfl, Nat.le_refl 0, rfl⟩
/-- So much is as it was: lengths and counts. -/
structure Alen (x y : PA) : Prop where
  fx : y.fx.length = x.fx.length
  bs : y.bs.length = x.bs.length
  l : y.t.lays = x.t.lays
  f : y.t.frees = x.t.frees
theorem ASI.len {i : Nat} {x y : PA} (h : ASI i x) (k : Alen x y) : ASI (i + 1) y :=
  ⟨by rw [k.fx]; exact h.fx, by rw [k.bs]; have := h.few; omega, by rw [k.l, k.f, k.bs]; exact h.t⟩
theorem Alen.refl (x : PA) : Alen x x := ⟨rfl, rfl, rfl, rfl⟩
theorem appB_len {n h : Nat} {ws : List Nat} : ∀ l : List (Nat × Nat × List Nat), (appB n h ws l).length = l.length + 1
  | [] => rfl
  | x :: l => by simp only [appB, List.length_cons, appB_len l]
theorem freeB_len {h : Nat} {ws : List Nat} : ∀ {l : List (Nat × Nat × List Nat)}, findP h l = some ws → l.length = (freeB h l).length + 1
  | [], e => by cases e
  | (n, h', ws') :: l, e => by
    simp only [findP] at e
    simp only [freeB]
    cases hb : Nat.beq h' h <;> rw [hb] at e
    · simp only [cond_false, List.length_cons] at e ⊢
      rw [freeB_len e]
    · rfl
theorem setPA_len {h i y : Nat} : ∀ l : List (Nat × Nat × List Nat), (setPA h i y l).length = l.length
  | [] => rfl
  | (n, h', ws) :: l => by simp only [setPA, List.length_cons, setPA_len l]
theorem ASI.lay {i : Nat} {x : PA} (h : ASI i x) (k : Nat) (ws : List Nat) : ASI (i + 1) (x.layX k ws) := by
  by_cases e : x.layE k = 0
  · rw [(layX_ok (ws := ws) e).1]
    refine ⟨h.fx, ?_, ?_⟩
    · show (appB _ _ _ x.bs).length ≤ i + 1
      rw [appB_len]; have := h.few; omega
    · show x.t.lays + 1 = x.t.frees + (appB _ _ _ x.bs).length
      rw [appB_len]; have := h.t; omega
  · rw [(layX_no (ws := ws) e).1]; exact h.len (Alen.refl x)
theorem ASI.free {i : Nat} {x : PA} (h : ASI i x) (k : Int) : ASI (i + 1) (x.frX k) := by
  unfold PA.frX
  cases hf : findP k.toNat x.bs with
  | none => exact h.len ⟨rfl, rfl, rfl, rfl⟩
  | some ws =>
    have e := freeB_len hf
    have h1 := h.few
    have h2 := h.t
    refine ⟨h.fx, ?_, ?_⟩
    · show (freeB _ x.bs).length ≤ i + 1
      omega
    · show x.t.lays = x.t.frees + 1 + (freeB _ x.bs).length
      omega
theorem alen_set (x : PA) (h i y : Nat) : Alen x (x.set h i y) := by
  unfold PA.set
  cases Nat.beq h 0
  · exact ⟨rfl, setPA_len _, rfl, rfl⟩
  · exact ⟨List.length_set, rfl, rfl, rfl⟩
theorem Alen.as {x y z : PA} (h : Alen x y) (e1 : z.fx = y.fx) (e2 : z.bs = y.bs) (e3 : z.t.lays = y.t.lays) (e4 : z.t.frees = y.t.frees) : Alen x z := ⟨by rw [e1]; exact h.fx, by rw [e2]; exact h.bs, e3.trans h.l, e4.trans h.f⟩
theorem alen_rdX (x : PA) (h i : Int) : Alen x (x.rdX h i) := by
  unfold PA.rdX
  split <;> exact ⟨rfl, rfl, rfl, rfl⟩
theorem alen_wrX (x : PA) (h i y : Int) : Alen x (x.wrX h i y) := by
  unfold PA.wrX
  split
  · exact (alen_set x h.toNat i.toNat y.toNat).as rfl rfl rfl rfl
  · exact ⟨rfl, rfl, rfl, rfl⟩
theorem alen_adX (x : PA) (h i y : Int) : Alen x (x.adX h i y) := by
  unfold PA.adX
  split
  · exact (alen_set x h.toNat i.toNat (addW ((x.word h.toNat i.toNat).getD 0) y.toNat)).as rfl rfl rfl rfl
  · exact ⟨rfl, rfl, rfl, rfl⟩
theorem alen_swX (x : PA) (h i o y : Int) : Alen x (x.swX h i o y) := by
  unfold PA.swX
  split
  · rename_i r _
    cases eqI (r : Int) o
    · exact ⟨rfl, rfl, rfl, rfl⟩
    · exact (alen_set x h.toNat i.toNat y.toNat).as rfl rfl rfl rfl
  · exact ⟨rfl, rfl, rfl, rfl⟩
/-- The same words. -/
def SameW (x y : PA) : Prop := y.fx = x.fx ∧ y.bs = x.bs
theorem same_rdX (x : PA) (h i : Int) : SameW x (x.rdX h i) := by
  unfold PA.rdX
  split <;> exact ⟨rfl, rfl⟩
theorem same_wrX {x : PA} {h i y : Int} (e : x.atE h i ≠ 0) : SameW x (x.wrX h i y) := by
  unfold PA.wrX
  unfold PA.atE at e
  cases hw : x.wordI h i with
  | none => exact ⟨rfl, rfl⟩
  | some r => rw [hw] at e; exact absurd rfl e
theorem same_swX {x : PA} {h i o y : Int} (e : x.swB h i o = false) : SameW x (x.swX h i o y) := by
  unfold PA.swX
  unfold PA.swB at e
  cases hw : x.wordI h i with
  | none => exact ⟨rfl, rfl⟩
  | some r =>
    rw [hw] at e
    have e : eqI (r : Int) o = false := e
    simp only [e, cond_false]
    exact ⟨rfl, rfl⟩
theorem set_self {l : List Nat} {i r : Nat} (h : l[i]? = some r) : l.set i r = l := by
  apply List.ext_getElem?
  intro j
  rw [List.getElem?_set]
  by_cases e : i = j
  · subst e
    rw [if_pos rfl]
    by_cases hl : i < l.length
    · rw [if_pos hl, h]
    · rw [if_neg hl, List.getElem?_eq_none (by omega)]
  · rw [if_neg e]
theorem setPA_self {h i r : Nat} : ∀ {l : List (Nat × Nat × List Nat)}, (l.map fun b => b.2.1).Nodup → ∀ {ws : List Nat}, findP h l = some ws → ws[i]? = some r → setPA h i r l = l
  | [], _, _, e, _ => by cases e
  | (n, h', ws') :: l, hn, ws, e, hr => by
    have h1 := List.nodup_cons.1 hn
    simp only [findP] at e
    simp only [setPA]
    rw [beq_dec] at e ⊢
    by_cases e1 : h' = h
    · subst e1
      rw [decide_eq_true rfl, cond_true] at e
      cases e
      rw [decide_eq_true rfl, cond_true, set_self hr]
      congr 1
      have hno : ∀ y ∈ l, y.2.1 ≠ h' := fun y hy e => h1.1 (List.mem_map.2 ⟨y, hy, e⟩)
      clear hn h1
      induction l with
      | nil => rfl
      | cons y l ih =>
        obtain ⟨n', h'', ws'⟩ := y
        simp only [setPA]
        rw [beq_dec, decide_eq_false (hno _ List.mem_cons_self), cond_false, ih fun y hy => hno y (List.mem_cons_of_mem _ hy)]
    · rw [decide_eq_false e1, cond_false] at e ⊢
      rw [setPA_self h1.2 e hr]
theorem PA.Inv.words {x : PA} (h : x.Inv) : ∀ y ∈ x.bs, ∀ u ∈ y.2.2, u < TW := by
  obtain ⟨z, hi⟩ := h
  intro y hy
  rw [← blksOf_key z x.bs 0] at hy
  obtain ⟨b, hb, rfl⟩ := List.mem_map.1 hy
  exact hi.words b hb
theorem PA.Inv.fixed {x : PA} (h : x.Inv) (i : Nat) : x.fx.getD i 0 < TW := by
  obtain ⟨z, hi⟩ := h
  exact hi.fixed i
/-- Adding nothing leaves the words. -/
theorem same_adX {x : PA} (hi : x.Inv) (h9 : x.fx.length = 9) {h i y : Int} (e : x.atE h i ≠ 0 ∨ y = 0) : SameW x (x.adX h i y) := by
  unfold PA.adX
  unfold PA.atE at e
  cases hw : x.wordI h i with
  | none => exact ⟨rfl, rfl⟩
  | some r =>
    rw [hw] at e
    have ey : y = 0 := by rcases e with e | e; exact absurd rfl e; exact e
    subst ey
    have hw2 : x.word h.toNat i.toNat = some r := by
      unfold PA.wordI at hw
      cases hl : leI 0 i <;> rw [hl] at hw
      · cases hw
      · exact hw
    show (PA.set x h.toNat i.toNat (addW ((x.word h.toNat i.toNat).getD 0) (0 : Int).toNat)).fx = x.fx ∧ (PA.set x h.toNat i.toNat (addW ((x.word h.toNat i.toNat).getD 0) (0 : Int).toNat)).bs = x.bs
    rw [hw2]
    have ez : (0 : Int).toNat = 0 := rfl
    rw [ez]
    unfold PA.word at hw2
    unfold PA.set
    rw [beq_dec] at hw2 ⊢
    by_cases e0 : h.toNat = 0
    · rw [decide_eq_true e0, cond_true] at hw2 ⊢
      cases hb : Nat.blt i.toNat 9 <;> rw [hb] at hw2
      · cases hw2
      have hb : i.toNat < 9 := by simpa [Nat.blt_eq] using hb
      rw [cond_true] at hw2
      have hr : x.fx.getD i.toNat 0 = r := Option.some.inj hw2
      have hlt := hi.fixed i.toNat
      have ea : addW ((some r).getD 0) 0 = r := by rw [hr] at hlt; exact Nat.mod_eq_of_lt hlt
      refine ⟨?_, rfl⟩
      rw [ea]
      refine set_self ?_
      rw [List.getElem?_eq_getElem (by omega)]
      rw [List.getD_eq_getElem?_getD, List.getElem?_eq_getElem (by omega)] at hr
      exact congrArg some hr
    · rw [decide_eq_false e0, cond_false] at hw2 ⊢
      cases hf : findP h.toNat x.bs with
      | none => rw [hf] at hw2; cases hw2
      | some ws =>
        rw [hf] at hw2
        obtain ⟨n, hn⟩ := findP_mem hf
        have hw2 : ws[i.toNat]? = some r := hw2
        have hlt := hi.words _ hn r (List.mem_of_getElem? hw2)
        have ea : addW ((some r).getD 0) 0 = r := Nat.mod_eq_of_lt hlt
        rw [ea]
        exact ⟨rfl, setPA_self hi.nd hf hw2⟩
theorem alike_of {y c : PA} (hf : c.fx = y.fx) (hb : c.bs.Perm y.bs) : alikeP y c = true := by
  have h1 := alikeP_perm (x := y) hb
  unfold alikeP at *
  rw [hf]
  exact h1
/-- The lengths of the first so many blocks, summed. -/
def sumN (nf : Nat → Nat) (i : Nat) : Nat := ((List.range i).map nf).sum
theorem sumN_succ (nf : Nat → Nat) (i : Nat) : sumN nf (i + 1) = sumN nf i + nf i := by
  unfold sumN
  rw [List.range_succ, List.map_append, List.sum_append]
  simp
theorem sumN_mono (nf : Nat → Nat) {i j : Nat} (h : i ≤ j) : sumN nf i ≤ sumN nf j := by
  induction h with
  | refl => exact Nat.le_refl _
  | step h ih => rw [sumN_succ]; omega
theorem PA.Inv.sum {x : PA} (h : x.Inv) : x.used = (x.bs.map fun b => b.2.2.length).sum := by
  obtain ⟨z, hi⟩ := h
  have e1 : x.used = ((blksOf z 0 x.bs).map fun b => b.ws.length).sum := hi.sum
  have e2 : (x.bs.map fun b => b.2.2.length) = (((blksOf z 0 x.bs).map key3).map fun b => b.2.2.length) := by rw [blksOf_key]
  rw [e1, e2, List.map_map]
  rfl
theorem PA.Inv.usedLe {x : PA} (h : x.Inv) : x.used ≤ 60000 ∧ x.used ≤ x.peak := by
  obtain ⟨z, hi⟩ := h
  have h1 := hi.cap
  have h2 := hi.used
  have h3 := hi.peak
  exact ⟨Nat.le_trans h2 h1, h3.1⟩
theorem sumN_list : ∀ (l : List (Nat × List Nat)) (nf : Nat → Nat), (∀ i, i < l.length → nf i = (l.getD i (0, [])).2.length) → sumN nf l.length = (l.map fun b => b.2.length).sum
  | [], _, _ => rfl
  | y :: l, nf, h => by
    have ih := sumN_list l (fun i => nf (i + 1)) fun i hi => by have := h (i + 1) (by simp; omega); simpa using this
    have h0 := h 0 (by simp)
    unfold sumN at *
    rw [List.length_cons, List.range_succ_eq_map, List.map_cons, List.sum_cons, List.map_map, List.map_cons, List.sum_cons]
    have e : List.map (nf ∘ Nat.succ) (List.range l.length) = List.map (fun i => nf (i + 1)) (List.range l.length) := rfl
    rw [e, ih, h0]
    rfl
theorem blk_all {x : PA} (hi : x.Inv) (hl : x.bs.length ≤ 300) {q : Nat} {hf : Nat → Int} {nf : Nat → Nat} (h : BlkList x 300 q hf nf) : q = x.bs.length ∧ sumN nf q = x.used := by
  obtain ⟨l, hp, hq, hx⟩ := h
  have e1 : l.length = x.bs.length := by rw [hp.length_eq, List.length_map]
  have e300 : (300 : Int).toNat = 300 := rfl
  have e2 : q = l.length := by rw [hq, List.length_take, e300]; omega
  refine ⟨e2.trans e1, ?_⟩
  subst e2
  rw [sumN_list l nf fun i hi => (hx i hi).2, hi.sum, (hp.map fun b => b.2.length).sum_nat, List.map_map]
  rfl
theorem findP_of_mem {h n : Nat} {ws : List Nat} : ∀ {l : List (Nat × Nat × List Nat)}, (l.map fun b => b.2.1).Nodup → (n, h, ws) ∈ l → findP h l = some ws
  | [], _, hm => by cases hm
  | (n', h', ws') :: l, hn, hm => by
    have h1 := List.nodup_cons.1 hn
    simp only [findP]
    rw [beq_dec]
    rcases List.mem_cons.1 hm with e | hm
    · cases e
      rw [decide_eq_true rfl, cond_true]
    · have hne : h' ≠ h := fun e => h1.1 (List.mem_map.2 ⟨_, hm, e.symm⟩)
      rw [decide_eq_false hne, cond_false]
      exact findP_of_mem h1.2 hm
theorem blk_size {x : PA} (hi : x.Inv) {q : Nat} {most : Int} {hf : Nat → Int} {nf : Nat → Nat} (h : BlkList x most q hf nf) {i : Nat} (hq : i < q) : x.szV (hf i) = nf i := by
  obtain ⟨l, hp, hq1, hx⟩ := h
  have hil : i < l.length := by rw [List.length_take] at hq1; omega
  have hm : l.getD i (0, []) ∈ l := by
    rw [List.getD_eq_getElem?_getD, List.getElem?_eq_getElem hil]
    exact List.getElem_mem hil
  obtain ⟨y, hy, e⟩ := List.mem_map.1 (hp.mem_iff.1 hm)
  obtain ⟨n, h', ws⟩ := y
  have hf1 := findP_of_mem hi.nd hy
  obtain ⟨e1, e2⟩ := hx i hq
  rw [← e] at e1 e2
  rw [e1, e2]
  unfold PA.szV
  show (match findP ((h' : Nat) : Int).toNat x.bs with | some ws => ws.length | none => 0) = ws.length
  rw [Int.toNat_natCast, hf1]
end Go.Proofs.Ytnhmeepifockgaa
