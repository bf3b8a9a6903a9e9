/- Claims one behind the other: which slot a claim gets, in how many steps. No program in sight. -/
import Derived.Test.YtgiakcepgbpchaaClmC
import Derived.Test.YtgiakcepgbpchaaWords
set_option linter.all false
namespace Go.Proofs.Ytgiakcepgbpchaa
open Go Go.RowKit
set_option maxRecDepth 100000

theorem PA.word_set {x : PA} {h i : Nat} (y : Nat) (hs : (x.word h i).isSome = true) (h9 : x.fx.length = 9) (k j : Nat) : (x.set h i y).word k j = if k = h ∧ j = i then some y else x.word k j := by
  have hi : h = 0 → i < x.fx.length := fun e => by
    subst e
    unfold PA.word at hs
    simp only [Nat.beq, cond_true] at hs
    cases hb : Nat.blt i 9 <;> rw [hb] at hs
    · cases hs
    · rw [Nat.blt_eq] at hb; omega
  have h1 := PA.set_eq x (fun _ => undef) h i y hi
  have h2 := Ar.word_set (x.ar fun _ => undef) (h := h) (i := i) y (by rw [PA.word_eq]; exact hs) k j
  rw [h1, PA.word_eq, PA.word_eq] at h2
  exact h2
theorem PA.word_tick (x : PA) (f : Tly → Tly) (k j : Nat) : (x.tick f).word k j = x.word k j := rfl
theorem findP_app {n h k : Nat} {ws : List Nat} : ∀ {l : List (Nat × Nat × List Nat)}, findP k (appB n h ws l) = match findP k l with | some v => some v | none => if h = k then some ws else none
  | [] => by
    simp only [appB, findP]
    rw [beq_dec]
    by_cases e : h = k
    · rw [decide_eq_true e, if_pos e]; rfl
    · rw [decide_eq_false e, if_neg e]; rfl
  | (n', h', ws') :: l => by
    simp only [appB, findP]
    cases Nat.beq h' k
    · exact findP_app
    · rfl
/-- An arena with G segments; own tells whose a slot is. -/
structure OwnOk (x : PA) (G : Nat) (own : Nat → Nat) : Prop where
  fx9 : x.fx.length = 9
  cap : x.cap = 60000
  used : x.used = 7 * (2 ^ G - 1)
  births : x.births = G
  high : x.high = G
  bk : x.bk = []
  faults : x.faults = 0
  g8 : G ≤ 8
  fixed : ∀ g, g < 8 → x.word 0 (g + 1) = some (if g < G then (g + 1) * 65537 else 0)
  owns : ∀ s, s + 1 < 2 ^ G → x.word ((segG s + 1) * 65537) (5 * segO s) = some (own s)
  miss : ∀ g, G ≤ g → findP ((g + 1) * 65537) x.bs = none
theorem OwnOk.new : OwnOk (PA.new 60000) 0 fun _ => 0 := ⟨rfl, rfl, rfl, rfl, rfl, rfl, rfl, by decide, fun g hg => by
    have : ∀ i, i < 8 → (PA.new 60000).word 0 (i + 1) = some 0 := by decide
    rw [this g hg, if_neg (by omega)], fun s hs => by simp at hs, fun _ _ => rfl⟩
theorem OwnOk.read {x : PA} {G : Nat} {own : Nat → Nat} (h : OwnOk x G own) : OwnOk x.read G own := ⟨h.fx9, h.cap, h.used, h.births, h.high, h.bk, h.faults, h.g8, h.fixed, h.owns, h.miss⟩
theorem OwnOk.tick {x : PA} {G : Nat} {own : Nat → Nat} (h : OwnOk x G own) (f : Tly → Tly) : OwnOk (x.tick f) G own := ⟨h.fx9, h.cap, h.used, h.births, h.high, h.bk, h.faults, h.g8, h.fixed, h.owns, h.miss⟩
theorem findP_set {h i y k : Nat} : ∀ {l : List (Nat × Nat × List Nat)}, findP k l = none → findP k (setPA h i y l) = none
  | [], _ => rfl
  | (n, h', ws) :: l, e => by
    simp only [findP] at e
    simp only [setPA]
    cases hb : Nat.beq h' k
    · rw [hb] at e
      cases Nat.beq h' h <;> simp only [cond_true, cond_false, findP, hb] <;> exact findP_set e
    · rw [hb] at e; cases e
theorem set_rest (x : PA) (h i y : Nat) : (x.set h i y).cap = x.cap ∧ (x.set h i y).used = x.used ∧ (x.set h i y).births = x.births ∧ (x.set h i y).high = x.high ∧ (x.set h i y).bk = x.bk ∧ (x.set h i y).faults = x.faults ∧ (x.set h i y).fx.length = x.fx.length := by
  unfold PA.set
  cases Nat.beq h 0
  · exact ⟨rfl, rfl, rfl, rfl, rfl, rfl, rfl⟩
  · exact ⟨rfl, rfl, rfl, rfl, rfl, rfl, List.length_set ..⟩
theorem set_miss {x : PA} {h i y k : Nat} (e : findP k x.bs = none) : findP k (x.set h i y).bs = none := by
  unfold PA.set
  cases Nat.beq h 0
  · exact findP_set e
  · exact e
theorem seg_inj {s u : Nat} (h1 : segG s = segG u) (h2 : segO s = segO u) (hs : s ≤ 254) (hu : u ≤ 254) : s = u := by
  have a := seg_facts hs
  have b := seg_facts hu
  unfold segO at h2
  rw [h1] at h2 a
  omega
/-- A slot's word is written. -/
theorem OwnOk.put {x : PA} {G : Nat} {own : Nat → Nat} (h : OwnOk x G own) {s : Nat} (hs : s + 1 < 2 ^ G) (hs2 : s ≤ 254) (y : Nat) (f : Tly → Tly) : OwnOk ((x.set ((segG s + 1) * 65537) (5 * segO s) y).tick f) G (fun u => if u = s then y else own u) := by
  obtain ⟨r1, r2, r3, r4, r5, r6, r7⟩ := set_rest x ((segG s + 1) * 65537) (5 * segO s) y
  have hsome : (x.word ((segG s + 1) * 65537) (5 * segO s)).isSome = true := by rw [h.owns s hs]; rfl
  have h256 : 2 ^ G ≤ 2 ^ 8 := Nat.pow_le_pow_right (by omega) h.g8
  refine ⟨by rw [← h.fx9]; exact r7, by rw [← h.cap]; exact r1, by rw [← h.used]; exact r2, by rw [← h.births]; exact r3, by rw [← h.high]; exact r4, by rw [← h.bk]; exact r5, by rw [← h.faults]; exact r6, h.g8, fun g hg => ?_, fun u hu => ?_, fun g hg => set_miss (h.miss g hg)⟩
  · rw [PA.word_tick, PA.word_set y hsome h.fx9, if_neg (by omega)]
    exact h.fixed g hg
  · rw [PA.word_tick, PA.word_set y hsome h.fx9]
    by_cases e : u = s
    · subst e
      rw [if_pos ⟨rfl, rfl⟩, if_pos rfl]
    · rw [if_neg e, if_neg]
      · exact h.owns u hu
      · rintro ⟨e1, e2⟩
        exact e (seg_inj (by omega) (by omega) (by omega) hs2)
theorem zerosG_eq (g : Nat) : zerosG g = List.replicate (7 * 2 ^ g) 0 := by
  unfold zerosG natsOf
  apply List.ext_getElem?
  intro i
  rw [List.getElem?_map, List.getElem?_replicate]
  by_cases h : i < 7 * 2 ^ g
  · rw [if_pos h, List.getElem?_range h]; rfl
  · rw [if_neg h, List.getElem?_eq_none (by simpa using h)]; rfl
theorem PA.word_lay {x : PA} {ws : List Nat} {k j : Nat} : (x.lay ws).word k j = if k = 0 then x.word 0 j else match findP k x.bs with | some v => v[j]? | none => if x.hdl = k then ws[j]? else none := by
  unfold PA.word PA.lay
  dsimp only
  rw [beq_dec]
  by_cases e : k = 0
  · subst e; rw [decide_eq_true rfl, if_pos rfl]; rfl
  · rw [decide_eq_false e, if_neg e, findP_app]
    simp only [cond_false]
    cases findP k x.bs with
    | some v => rfl
    | none =>
      simp only
      by_cases e2 : x.hdl = k
      · rw [if_pos e2, if_pos e2]
      · rw [if_neg e2, if_neg e2]
/-- A segment more: it is laid, and installed. -/
theorem OwnOk.more {x : PA} {G : Nat} {own : Nat → Nat} (h : OwnOk x G own) (hG : G < 8) :
    x.hdl = (G + 1) * 65537 ∧ (x.lay (zerosG G)).Has 0 ((G : Int) + 1) ∧ (x.lay (zerosG G)).rd 0 ((G : Int) + 1) = 0 ∧ OwnOk ((x.lay (zerosG G)).swapQ 0 ((G : Int) + 1) 0 (((G + 1) * 65537 : Nat) : Int)) (G + 1) (fun u => if u + 1 < 2 ^ G then own u else 0) := by
  have hh : x.hdl = (G + 1) * 65537 := by unfold PA.hdl; rw [h.births, h.high]; omega
  have e1 : ((G : Int) + 1).toNat = G + 1 := by omega
  have hf : (x.lay (zerosG G)).word 0 (G + 1) = some 0 := by
    rw [PA.word_lay, if_pos rfl, h.fixed G hG, if_neg (Nat.lt_irrefl G)]
  have h9 : (x.lay (zerosG G)).fx.length = 9 := h.fx9
  have hp : 1 ≤ 2 ^ G := Nat.one_le_two_pow
  have h128 : 2 ^ G ≤ 2 ^ 7 := Nat.pow_le_pow_right (by omega) (by omega)
  have hrd : (x.lay (zerosG G)).rd 0 ((G : Int) + 1) = 0 := by
    unfold PA.rd
    rw [e1, show (0 : Int).toNat = 0 from rfl, hf]
    rfl
  refine ⟨hh, ⟨by decide, by omega, by rw [e1]; show (PA.word _ 0 _).isSome = true; rw [hf]; rfl, h9⟩, hrd, ?_⟩
  have es : (x.lay (zerosG G)).swapQ 0 ((G : Int) + 1) 0 (((G + 1) * 65537 : Nat) : Int) = ((x.lay (zerosG G)).set 0 (G + 1) ((G + 1) * 65537)).tick fun t => { t with swaps := t.swaps + 1 } := by
    unfold PA.swapQ
    rw [hrd, if_pos (show ((0 : Nat) : Int) = 0 from rfl), e1, Int.toNat_natCast]
    rfl
  rw [es]
  obtain ⟨r1, r2, r3, r4, r5, r6, r7⟩ := set_rest (x.lay (zerosG G)) 0 (G + 1) ((G + 1) * 65537)
  have hlen : (zerosG G).length = 7 * 2 ^ G := by rw [zerosG_eq, List.length_replicate]
  have hsome : ((x.lay (zerosG G)).word 0 (G + 1)).isSome = true := by rw [hf]; rfl
  have hpw : 2 ^ (G + 1) = 2 * 2 ^ G := by rw [Nat.pow_succ]; omega
  refine ⟨r7.trans h9, r1.trans h.cap, ?_, ?_, ?_, r5.trans h.bk, r6.trans h.faults, hG, fun g hg => ?_, fun u hu => ?_, fun g hg => ?_⟩
  · refine r2.trans ?_
    show x.used + (zerosG G).length = _
    rw [h.used, hlen, hpw]
    omega
  · refine r3.trans ?_
    show x.births + 1 = _
    rw [h.births]
  · refine r4.trans ?_
    show x.high + 1 = _
    rw [h.high]
  · rw [PA.word_tick, PA.word_set _ hsome h9]
    by_cases e : g = G
    · subst e
      rw [if_pos ⟨rfl, rfl⟩, if_pos (Nat.lt_succ_self g)]
    · rw [if_neg (by omega), PA.word_lay, if_pos rfl, h.fixed g hg]
      by_cases e2 : g < G
      · rw [if_pos e2, if_pos (by omega)]
      · rw [if_neg e2, if_neg (by omega)]
  · rw [PA.word_tick, PA.word_set _ hsome h9, if_neg (by omega), PA.word_lay, if_neg (by omega)]
    by_cases e : u + 1 < 2 ^ G
    · rw [if_pos e]
      have ho := h.owns u e
      unfold PA.word at ho
      rw [beq_dec, decide_eq_false (by omega)] at ho
      simp only [cond_false] at ho
      cases hfp : findP ((segG u + 1) * 65537) x.bs with
      | some v => rw [hfp] at ho; exact ho
      | none => rw [hfp] at ho; cases ho
    · rw [if_neg e]
      have hg : segG u = G := by
        have f := seg_facts (s := u) (by omega)
        rcases Nat.lt_trichotomy (segG u) G with h1 | h1 | h1
        · have : 2 ^ (segG u + 1) ≤ 2 ^ G := Nat.pow_le_pow_right (by omega) h1
          rw [Nat.pow_succ] at this
          omega
        · exact h1
        · have : 2 ^ (G + 1) ≤ 2 ^ segG u := Nat.pow_le_pow_right (by omega) h1
          omega
      have ho : segO u < 2 ^ G := by unfold segO; rw [hg]; omega
      rw [hg, h.miss G (Nat.le_refl G)]
      simp only
      rw [if_pos hh, zerosG_eq, List.getElem?_replicate, if_pos (by omega)]
  · refine set_miss ?_
    show findP _ (appB _ _ _ x.bs) = none
    rw [findP_app, h.miss g (by omega)]
    simp only
    rw [hh, if_neg (by omega)]
abbrev CP : Type := Clm × PA
theorem le5 {n : Nat} (h : Nat.ble n 5 = true) : n ≤ 5 := Nat.le_of_ble_eq_true h
def cpStep (s : CP) : CP := (clmStep s.1 s.2, clmA s.1 s.2)
def cpOk (s : CP) : Prop := clmOk s.1 s.2 ∧ s.1.ph ≤ 5
inductive CPath : Nat → CP → CP → Prop
  | nil (x : CP) : CPath 0 x x
  | cons {x y : CP} {k : Nat} : cpOk x → CPath k (cpStep x) y → CPath (k + 1) x y
theorem CPath.trans {k l : Nat} {x y z : CP} (h : CPath k x y) (h2 : CPath l y z) : CPath (k + l) x z := by
  induction h with
  | nil => rw [Nat.zero_add]; exact h2
  | cons ho _ ih => rw [Nat.add_right_comm]; exact .cons ho (ih h2)
theorem CPath.one {x y : CP} (h : cpOk x) (e : cpStep x = y) : CPath 1 x y := e ▸ .cons h (.nil _)
section
variable {x : PA} {G : Nat} {own : Nat → Nat} {tok seg s g priv : Nat} {got : Bool} {e : Nat}
theorem own_rd (h : OwnOk x G own) (hs : s + 1 < 2 ^ G) : x.Has (((segG s + 1) * 65537 : Nat) : Int) (5 * ((segO s : Nat) : Int)) ∧ x.rd (((segG s + 1) * 65537 : Nat) : Int) (5 * ((segO s : Nat) : Int)) = own s := by
  have h256 : 2 ^ G ≤ 2 ^ 8 := Nat.pow_le_pow_right (by omega) h.g8
  have f := seg_facts (s := s) (by omega)
  have e1 : (5 * ((segO s : Nat) : Int)).toNat = 5 * segO s := by omega
  constructor
  · refine ⟨by omega, by omega, ?_, h.fx9⟩
    rw [e1, Int.toNat_natCast, h.owns s hs]; rfl
  · unfold PA.rd
    rw [e1, Int.toNat_natCast, h.owns s hs]; rfl
theorem take_yes (h : OwnOk x G own) (hs : s + 1 < 2 ^ G) (ho : own s = 0) (ht : tok < 18446744073709551616) :
    ∃ x', CPath 1 (⟨4, tok, (segG s + 1) * 65537, s, g, priv, got, e⟩, x) (⟨5, tok, (segG s + 1) * 65537, s, g, priv, true, e⟩, x') ∧ OwnOk x' G (fun u => if u = s then tok else own u) := by
  have h256 : 2 ^ G ≤ 2 ^ 8 := Nat.pow_le_pow_right (by omega) h.g8
  obtain ⟨h1, h2⟩ := own_rd h hs
  rw [ho] at h2
  refine ⟨_, .one ⟨⟨by show s ≤ 254; omega, h1, ht⟩, le5 rfl⟩ ?_, h.put hs (by omega) tok fun t => { t with swaps := t.swaps + 1 }⟩
  show (clmStep _ _, clmA _ _) = _
  simp only [clmStep, clmA, h2, if_true]
  congr 1
  unfold PA.swapQ
  rw [h2, if_pos (show ((0 : Nat) : Int) = 0 from rfl), Int.toNat_natCast, Int.toNat_natCast, show (5 * ((segO s : Nat) : Int)).toNat = 5 * segO s by omega]
theorem take_no (h : OwnOk x G own) (hs : s + 1 < 2 ^ G) (ho : own s ≠ 0) (ht : tok < 18446744073709551616) :
    ∃ x', CPath 1 (⟨4, tok, (segG s + 1) * 65537, s, g, priv, got, e⟩, x) (clmOn ⟨4, tok, (segG s + 1) * 65537, s + 1, g, priv, got, e⟩, x') ∧ OwnOk x' G own := by
  have h256 : 2 ^ G ≤ 2 ^ 8 := Nat.pow_le_pow_right (by omega) h.g8
  obtain ⟨h1, h2⟩ := own_rd h hs
  refine ⟨_, .one ⟨⟨by show s ≤ 254; omega, h1, ht⟩, le5 rfl⟩ ?_, h.tick fun t => { t with swaps := t.swaps + 1 }⟩
  show (clmStep _ _, clmA _ _) = _
  simp only [clmStep, clmA, h2, if_neg ho]
  congr 1
  unfold PA.swapQ
  rw [h2, if_neg (show ¬ ((own s : Nat) : Int) = 0 by omega)]
theorem look_step (h : OwnOk x G own) (hg : g < 8) : ∃ x', CPath 1 (⟨0, tok, seg, s, g, priv, got, e⟩, x) (⟨if g < G then 4 else 1, tok, if g < G then (g + 1) * 65537 else 0, s, g, priv, got, e⟩, x') ∧ OwnOk x' G own := by
  have e1 : ((g : Int) + 1).toNat = g + 1 := by omega
  have hw := h.fixed g hg
  have hH : x.Has 0 ((g : Int) + 1) := ⟨by decide, by omega, by rw [e1]; show (x.word 0 _).isSome = true; rw [hw]; rfl, h.fx9⟩
  have hr : x.rd 0 ((g : Int) + 1) = if g < G then (g + 1) * 65537 else 0 := by
    unfold PA.rd
    rw [e1, show (0 : Int).toNat = 0 from rfl, hw]; rfl
  refine ⟨_, .one ⟨⟨hg, hH⟩, le5 rfl⟩ ?_, h.read⟩
  show (clmStep _ _, clmA _ _) = _
  simp only [clmStep, clmA, hr]
  by_cases h1 : g < G
  · simp only [if_pos h1]
    rw [if_neg (by omega)]
  · simp only [if_neg h1, if_true]
theorem lay_steps (h : OwnOk x G own) (hG : G < 8) : ∃ x', CPath 2 (⟨1, tok, seg, s, G, priv, got, e⟩, x) (⟨4, tok, (G + 1) * 65537, s, G, 0, got, e⟩, x') ∧ OwnOk x' (G + 1) (fun u => if u + 1 < 2 ^ G then own u else 0) := by
  obtain ⟨h1, h2, h3, h4⟩ := h.more hG
  have hp : 1 ≤ 2 ^ G := Nat.one_le_two_pow
  have h128 : 2 ^ G ≤ 2 ^ 7 := Nat.pow_le_pow_right (by omega) (by omega)
  have p1 : CPath 1 (⟨1, tok, seg, s, G, priv, got, e⟩, x) (⟨2, tok, seg, s, G, (G + 1) * 65537, got, e⟩, x.lay (zerosG G)) := by
    refine .one ⟨⟨hG, ?_, h.bk, by show x.births < _; rw [h.births]; omega⟩, le5 rfl⟩ ?_
    · show x.used + 7 * 2 ^ G ≤ x.cap
      rw [h.used, h.cap]; omega
    · show (clmStep _ _, clmA _ _) = _
      simp only [clmStep, clmA, h1]
  have p2 : CPath 1 (⟨2, tok, seg, s, G, (G + 1) * 65537, got, e⟩, x.lay (zerosG G)) (⟨4, tok, (G + 1) * 65537, s, G, 0, got, e⟩, (x.lay (zerosG G)).swapQ 0 ((G : Int) + 1) 0 (((G + 1) * 65537 : Nat) : Int)) := by
    refine .one ⟨⟨hG, h2, by show (G + 1) * 65537 < _; omega⟩, le5 rfl⟩ ?_
    show (clmStep _ _, clmA _ _) = _
    simp only [clmStep, clmA, h3, if_true]
  exact ⟨_, p1.trans p2, h4⟩
end
theorem segG_mid {g s : Nat} (h1 : 2 ^ g ≤ s + 1) (h2 : s + 1 < 2 ^ (g + 1)) : segG s = g := by
  unfold segG
  have h3 : 2 ^ Nat.log2 (s + 1) ≤ s + 1 := Nat.log2_self_le (by omega)
  have h4 : s + 1 < 2 ^ (Nat.log2 (s + 1) + 1) := Nat.lt_log2_self
  rcases Nat.lt_trichotomy (Nat.log2 (s + 1)) g with h | h | h
  · have : 2 ^ (Nat.log2 (s + 1) + 1) ≤ 2 ^ g := Nat.pow_le_pow_right (by omega) (by omega)
    omega
  · exact h
  · have : 2 ^ (g + 1) ≤ 2 ^ Nat.log2 (s + 1) := Nat.pow_le_pow_right (by omega) (by omega)
    omega
theorem segG_of2 {t G : Nat} (h : t + 1 = 2 ^ G) : segG t = G := segG_mid (by omega) (by rw [Nat.pow_succ]; have : 1 ≤ 2 ^ G := Nat.one_le_two_pow; omega)
theorem segG_next {s : Nat} (h : s + 1 ≤ 254) (h0 : segO (s + 1) ≠ 0) : segG (s + 1) = segG s := by
  have f := seg_facts (s := s) (by omega)
  have f2 := seg_facts (s := s + 1) h
  unfold segO at h0
  exact (segG_mid (g := segG (s + 1)) (s := s) (by omega) (by rw [Nat.pow_succ]; omega)).symm
def costF : Nat → Nat → Nat
  | _, 0 => 0
  | s, n + 1 => (1 + if segO s = 0 then 1 else 0) + costF (s + 1) n
section
variable {x : PA} {G : Nat} {own : Nat → Nat} {ph tok seg s g priv : Nat} {got : Bool} {e : Nat}
theorem on_eq (h : s ≤ 254) : clmOn ⟨ph, tok, seg, s, g, priv, got, e⟩ = if segO s = 0 then ⟨0, tok, seg, s, segG s, priv, got, e⟩ else ⟨4, tok, seg, s, g, priv, got, e⟩ := by
  unfold clmOn
  dsimp only
  rw [if_neg (by omega)]
theorem segG_lt2 (hs : s + 1 < 2 ^ G) (h2 : s ≤ 254) : segG s < G := by
  have f := seg_facts h2
  rcases Nat.lt_or_ge (segG s) G with h | h
  · exact h
  · have : 2 ^ G ≤ 2 ^ segG s := Nat.pow_le_pow_right (by omega) h
    omega
theorem at_slot (h : OwnOk x G own) (hs : s + 1 < 2 ^ G) (h2 : s ≤ 254) (hseg : segO s ≠ 0 → seg = (segG s + 1) * 65537) :
    ∃ k g' x', k ≤ (if segO s = 0 then 1 else 0) ∧ CPath k (clmOn ⟨ph, tok, seg, s, g, priv, got, e⟩, x) (⟨4, tok, (segG s + 1) * 65537, s, g', priv, got, e⟩, x') ∧ OwnOk x' G own := by
  have hg := segG_lt2 hs h2
  rw [on_eq h2]
  by_cases h0 : segO s = 0
  · simp only [if_pos h0]
    have f := seg_facts h2
    obtain ⟨x', p, ok⟩ := look_step (tok := tok) (seg := seg) (s := s) (priv := priv) (got := got) (e := e) h (g := segG s) (by omega)
    rw [if_pos hg, if_pos hg] at p
    exact ⟨1, _, x', Nat.le_refl 1, p, ok⟩
  · simp only [if_neg h0, hseg h0]
    exact ⟨0, _, x, Nat.zero_le _, .nil _, h⟩
/-- What a claim ends with, at the slot t. -/
structure Ends (G : Nat) (own : Nat → Nat) (tok t : Nat) (c : Clm) (x : PA) (G' : Nat) (own' : Nat → Nat) : Prop where
  ph : c.ph = 5
  got : c.got = true
  slot : c.slot = t
  seg : c.seg = (segG t + 1) * 65537
  ok : OwnOk x G' own'
  le : G ≤ G'
  lt : t + 1 < 2 ^ G'
  old : ∀ u, u + 1 < 2 ^ G → own' u = if u = t then tok else own u
  new : ∀ u, 2 ^ G ≤ u + 1 → u + 1 < 2 ^ G' → own' u = if u = t then tok else 0
  same : t + 1 < 2 ^ G → G' = G
  more : t + 1 = 2 ^ G → G' = G + 1
theorem reach_end (h : OwnOk x G own) {t : Nat} (h2 : t ≤ 254) (ht : tok < 18446744073709551616) (hseg : segO t ≠ 0 → seg = (segG t + 1) * 65537) (hend : (t + 1 < 2 ^ G ∧ own t = 0) ∨ (t + 1 = 2 ^ G ∧ G < 8)) :
    ∃ k c x' G' own', k ≤ 4 ∧ CPath k (clmOn ⟨ph, tok, seg, t, g, priv, false, 0⟩, x) (c, x') ∧ Ends G own tok t c x' G' own' := by
  rcases hend with ⟨hlt, h0⟩ | ⟨heq, hG⟩
  · obtain ⟨k1, g', x1, hk1, p1, ok1⟩ := at_slot (ph := ph) (tok := tok) (seg := seg) (s := t) (g := g) (priv := priv) (got := false) (e := 0) h hlt h2 hseg
    obtain ⟨x2, p2, ok2⟩ := take_yes (tok := tok) (g := g') (priv := priv) (got := false) (e := 0) ok1 hlt h0 ht
    refine ⟨_, _, x2, G, _, ?_, p1.trans p2, ⟨rfl, rfl, rfl, rfl, ok2, Nat.le_refl _, hlt, fun u _ => rfl, fun u h1 h2 => by omega, fun _ => rfl, fun h => by omega⟩⟩
    split at hk1 <;> omega
  · have hp : 1 ≤ 2 ^ G := Nat.one_le_two_pow
    have hg : segG t = G := segG_of2 heq
    have h0 : segO t = 0 := by unfold segO; rw [hg]; omega
    rw [on_eq h2, if_pos h0, hg]
    obtain ⟨x1, p1, ok1⟩ := look_step (tok := tok) (seg := seg) (s := t) (priv := priv) (got := false) (e := 0) h (g := G) (by omega)
    rw [if_neg (Nat.lt_irrefl G), if_neg (Nat.lt_irrefl G)] at p1
    obtain ⟨x2, p2, ok2⟩ := lay_steps (tok := tok) (seg := 0) (s := t) (priv := priv) (got := false) (e := 0) ok1 hG
    have hlt : t + 1 < 2 ^ (G + 1) := by rw [Nat.pow_succ]; omega
    obtain ⟨x3, p3, ok3⟩ := take_yes (s := t) (tok := tok) (g := G) (priv := 0) (got := false) (e := 0) ok2 hlt (show (if t + 1 < 2 ^ G then own t else 0) = 0 from if_neg (by omega)) ht
    rw [hg] at p3
    refine ⟨_, _, x3, G + 1, _, by decide, p1.trans (p2.trans p3), ⟨rfl, rfl, rfl, by dsimp only; rw [hg], ok3, Nat.le_succ _, hlt, fun u hu => ?_, fun u h1 h2 => ?_, fun h => by omega, fun _ => rfl⟩⟩
    · show (if u = t then tok else if u + 1 < 2 ^ G then own u else 0) = _
      rw [if_pos hu]
    · show (if u = t then tok else if u + 1 < 2 ^ G then own u else 0) = _
      rw [if_neg (show ¬ u + 1 < 2 ^ G by omega)]
theorem reach (ht : tok < 18446744073709551616) : ∀ (n : Nat) {s ph seg g priv : Nat} {x : PA}, OwnOk x G own → s + n ≤ 254 → (segO s ≠ 0 → seg = (segG s + 1) * 65537) → (∀ u, s ≤ u → u < s + n → u + 1 < 2 ^ G ∧ own u ≠ 0) →
    ((s + n + 1 < 2 ^ G ∧ own (s + n) = 0) ∨ (s + n + 1 = 2 ^ G ∧ G < 8)) → ∃ k c x' G' own', k ≤ costF s n + 4 ∧ CPath k (clmOn ⟨ph, tok, seg, s, g, priv, false, 0⟩, x) (c, x') ∧ Ends G own tok (s + n) c x' G' own'
  | 0, s, ph, seg, g, priv, x, h, h2, hseg, _, hend => by
    obtain ⟨k, c, x', G', own', hk, p, en⟩ := reach_end (ph := ph) (g := g) (priv := priv) h h2 ht hseg hend
    exact ⟨k, c, x', G', own', by simp only [costF]; omega, p, en⟩
  | n + 1, s, ph, seg, g, priv, x, h, h2, hseg, hpass, hend => by
    obtain ⟨hlt, ho⟩ := hpass s (Nat.le_refl s) (by omega)
    obtain ⟨k1, g', x1, hk1, p1, ok1⟩ := at_slot (ph := ph) (tok := tok) (seg := seg) (s := s) (g := g) (priv := priv) (got := false) (e := 0) h hlt (by omega) hseg
    obtain ⟨x2, p2, ok2⟩ := take_no (tok := tok) (g := g') (priv := priv) (got := false) (e := 0) ok1 hlt ho ht
    have es : s + (n + 1) = s + 1 + n := by omega
    rw [es] at hend ⊢
    have f := seg_facts (s := s) (by omega)
    obtain ⟨k3, c, x3, G', own', hk3, p3, en⟩ := reach ht n (s := s + 1) (ph := 4) (seg := (segG s + 1) * 65537) (g := g') (priv := priv) ok2 (by omega) (fun h0 => by rw [segG_next (by omega) h0]) (fun u h1 h3 => hpass u (by omega) (by omega)) hend
    refine ⟨_, c, x3, G', own', ?_, p1.trans (p2.trans p3), en⟩
    simp only [costF]
    omega
end
end Go.Proofs.Ytgiakcepgbpchaa
