/- A collect of counters that nobody changes meanwhile: how many steps it takes, what it finds. No program in sight. -/
import Derived.Test.YtnfpkadepomjjaaBaseCol
import Derived.Test.YtnfpkadepomjjaaBaseTop
set_option linter.all false
namespace Go.Proofs.Ytnfpkadepomjjaa
open Go Go.RowKit

/-- An arena with n segments whose counters tell who is in. -/
structure Still (A : Ar) (n : Nat) (inB : Nat → Bool) : Prop where
  le : n < 8
  seg : ∀ g, g < 8 → A.rd 0 ((g + 1 : Nat) : Int) = if g < n then (g + 1) * 65537 else 0
  has : ∀ g node : Nat, g < n → 1 ≤ node → node < 2 * 2 ^ g → A.Has (((g + 1) * 65537 : Nat) : Int) ((5 * 2 ^ g + node : Nat) : Int)
  zero : ∀ g h node : Nat, g < n → h ≤ g → 2 ^ (g - h) ≤ node → node < 2 ^ (g - h + 1) → A.rd (((g + 1) * 65537 : Nat) : Int) (5 * ((2 ^ g : Nat) : Int) + (node : Int)) = 0 → ∀ v, node * 2 ^ h ≤ v → v < (node + 1) * 2 ^ h → inB (v - 1) = false
  leaf : ∀ g node : Nat, g < n → 2 ^ g ≤ node → node < 2 ^ (g + 1) → A.rd (((g + 1) * 65537 : Nat) : Int) (5 * ((2 ^ g : Nat) : Int) + (node : Int)) ≠ 0 → inB (node - 1) = true
def okS (A : Ar) (x : Col) : Prop := (x.ph = 0 ∧ x.g < 8) ∨ (x.ph = 1 ∧ x.g < 8 ∧ (1 ≤ x.node ∧ x.node < 2 * 2 ^ x.g) ∧ A.Has (x.segs x.g : Int) (5 * 2 ^ x.g + x.node : Nat)) ∨ x.ph = 2
inductive Path (A : Ar) : Nat → Col → Col → Prop
  | nil (x : Col) : Path A 0 x x
  | cons {x y : Col} {k : Nat} : okS A x → Path A k (colStep x A) y → Path A (k + 1) x y
theorem Path.trans {A : Ar} {k l : Nat} {x y z : Col} (h : Path A k x y) (h2 : Path A l y z) : Path A (k + l) x z := by
  induction h with
  | nil => rw [Nat.zero_add]; exact h2
  | cons ho _ ih => rw [Nat.add_right_comm]; exact .cons ho (ih h2)
theorem Path.one {A : Ar} {x : Col} (h : okS A x) : Path A 1 x (colStep x A) := .cons h (.nil _)
def pick (inB : Nat → Bool) (sg s : Nat) : Option (Nat × Nat) := if inB s = true then some (sg, s) else none
def leavesL (inB : Nat → Bool) (g v n : Nat) : List (Nat × Nat) := (List.range' v n).filterMap fun v => pick inB ((g + 1) * 65537) (v - 1)
theorem leavesL_nil {inB : Nat → Bool} {g : Nat} : ∀ {n v : Nat}, (∀ u, v ≤ u → u < v + n → inB (u - 1) = false) → leavesL inB g v n = []
  | 0, _, _ => rfl
  | n + 1, v, h => by
    unfold leavesL
    rw [List.range'_succ, List.filterMap_cons]
    have h0 : pick inB ((g + 1) * 65537) (v - 1) = none := by
      unfold pick
      rw [h v (Nat.le_refl _) (by omega)]; rfl
    rw [h0]
    exact leavesL_nil (n := n) (v := v + 1) fun u h1 h2 => h u (by omega) (by omega)
theorem leavesL_app {inB : Nat → Bool} {g v m n : Nat} : leavesL inB g v (m + n) = leavesL inB g v m ++ leavesL inB g (v + m) n := by
  unfold leavesL
  rw [← List.filterMap_append]
  congr 1
  have := List.range'_append_1 (s := v) (m := m) (n := n)
  rw [this]
theorem colOn_even {x : Col} {n : Nat} (h : x.node = 2 * n) (h1 : 1 ≤ n) : colOn x = { x with node := 2 * n + 1 } := by
  have hc : climb x.node x.node = x.node := climb_stop (by omega)
  unfold colOn
  simp only [hc]
  rw [if_pos (by omega), h]
theorem colOn_odd {x : Col} {n : Nat} (h1 : 1 ≤ n) : colOn { x with node := 2 * n + 1 } = colOn { x with node := n } := by
  have hc : climb (2 * n + 1) (2 * n + 1) = climb n n := by
    rw [climb_step (by omega) (by omega)]
    congr 1 <;> omega
  unfold colOn
  simp only [hc]
theorem colStep_cnt {x : Col} {A : Ar} (h : x.ph = 1) : colStep x A = colCnt x A := by
  obtain ⟨ph, g, node, segs, pl⟩ := x
  dsimp only at h
  subst h
  rfl
theorem dfs {A : Ar} {n : Nat} {inB : Nat → Bool} (hS : Still A n inB) {g : Nat} (hg : g < n) (segs : Nat → Nat) (hs : segs g = (g + 1) * 65537) : ∀ (h node : Nat) (pl : List (Nat × Nat)), h ≤ g → 2 ^ (g - h) ≤ node → node < 2 ^ (g - h + 1) →
    ∃ k, k + 1 ≤ 2 ^ (h + 1) ∧ Path A k ⟨1, g, node, segs, pl⟩ (colOn ⟨1, g, node, segs, pl ++ leavesL inB g (node * 2 ^ h) (2 ^ h)⟩) := fun h => by
  have h8 := hS.le
  have step : ∀ (node : Nat) (pl : List (Nat × Nat)), 1 ≤ node → node < 2 * 2 ^ g → Path A 1 ⟨1, g, node, segs, pl⟩ (if A.rd (((g + 1) * 65537 : Nat) : Int) (5 * ((2 ^ g : Nat) : Int) + (node : Int)) = 0 then colOn ⟨1, g, node, segs, pl⟩
      else if 2 ^ g ≤ node then colOn ⟨1, g, node, segs, pl ++ [((g + 1) * 65537, node - 1)]⟩ else ⟨1, g, 2 * node, segs, pl⟩) := fun node pl h1 h2 => by
    have := Path.one (A := A) (x := ⟨1, g, node, segs, pl⟩) (.inr (.inl ⟨rfl, by show g < 8; omega, ⟨h1, h2⟩, by dsimp only; rw [hs]; exact hS.has g node hg h1 h2⟩))
    rw [colStep_cnt rfl] at this
    unfold colCnt at this
    simp only [hs] at this
    exact this
  induction h with
  | zero =>
    intro node pl hh h1 h2
    rw [Nat.sub_zero] at h1 h2
    have h1' : 1 ≤ node := Nat.le_trans Nat.one_le_two_pow h1
    have h2' : node < 2 * 2 ^ g := by rw [Nat.pow_succ] at h2; omega
    have hst := step node pl h1' h2'
    refine ⟨1, by decide, ?_⟩
    rw [Nat.pow_zero, Nat.mul_one]
    by_cases hc : A.rd (((g + 1) * 65537 : Nat) : Int) (5 * ((2 ^ g : Nat) : Int) + (node : Int)) = 0
    · rw [if_pos hc] at hst
      rw [leavesL_nil (fun u hu1 hu2 => hS.zero g 0 node hg (Nat.zero_le _) (by rw [Nat.sub_zero]; exact h1) (by rw [Nat.sub_zero]; exact h2) hc u (by omega) (by omega)), List.append_nil]
      exact hst
    · rw [if_neg hc, if_pos h1] at hst
      have e : leavesL inB g node 1 = [((g + 1) * 65537, node - 1)] := by
        unfold leavesL
        rw [List.range'_one, List.filterMap_cons]
        unfold pick
        rw [if_pos (hS.leaf g node hg h1 h2 hc)]
        rfl
      rw [e]
      exact hst
  | succ h ih =>
    intro node pl hh h1 h2
    have hgs : g - h = g - (h + 1) + 1 := by omega
    have h1' : 1 ≤ node := Nat.le_trans Nat.one_le_two_pow h1
    have hlt : node < 2 ^ g := Nat.lt_of_lt_of_le h2 (Nat.pow_le_pow_right (by omega) (by omega))
    have hst := step node pl h1' (by omega)
    by_cases hc : A.rd (((g + 1) * 65537 : Nat) : Int) (5 * ((2 ^ g : Nat) : Int) + (node : Int)) = 0
    · rw [if_pos hc] at hst
      refine ⟨1, ?_, ?_⟩
      · have : 2 ^ 1 ≤ 2 ^ (h + 1 + 1) := Nat.pow_le_pow_right (by omega) (by omega)
        omega
      · rw [leavesL_nil (fun u hu1 hu2 => hS.zero g (h + 1) node hg hh h1 h2 hc u hu1 (by rw [Nat.succ_mul]; exact hu2)), List.append_nil]
        exact hst
    · rw [if_neg hc, if_neg (by omega)] at hst
      have hpow : 2 ^ (g - (h + 1) + 1 + 1) = 2 * 2 ^ (g - (h + 1) + 1) := by rw [Nat.pow_succ, Nat.mul_comm]
      have hpow2 : 2 ^ (g - (h + 1) + 1) = 2 * 2 ^ (g - (h + 1)) := by rw [Nat.pow_succ, Nat.mul_comm]
      obtain ⟨k1, hk1, p1⟩ := ih (2 * node) pl (by omega) (by rw [hgs]; omega) (by rw [hgs]; omega)
      rw [colOn_even (n := node) rfl h1'] at p1
      obtain ⟨k2, hk2, p2⟩ := ih (2 * node + 1) (pl ++ leavesL inB g (2 * node * 2 ^ h) (2 ^ h)) (by omega) (by rw [hgs]; omega) (by rw [hgs]; omega)
      refine ⟨1 + (k1 + k2), by rw [Nat.pow_succ 2 (h + 1)]; omega, ?_⟩
      have p := hst.trans (p1.trans p2)
      have e := colOn_odd (x := ⟨1, g, node, segs, pl ++ leavesL inB g (2 * node * 2 ^ h) (2 ^ h) ++ leavesL inB g ((2 * node + 1) * 2 ^ h) (2 ^ h)⟩) h1'
      dsimp only at e
      rw [e] at p
      have e2 : leavesL inB g (node * 2 ^ (h + 1)) (2 ^ (h + 1)) = leavesL inB g (2 * node * 2 ^ h) (2 ^ h) ++ leavesL inB g ((2 * node + 1) * 2 ^ h) (2 ^ h) := by
        rw [show node * 2 ^ (h + 1) = 2 * node * 2 ^ h by rw [Nat.pow_succ, Nat.mul_comm (2 ^ h) 2, ← Nat.mul_assoc, Nat.mul_comm node 2], Nat.pow_succ, Nat.mul_two, leavesL_app, show (2 * node + 1) * 2 ^ h = 2 * node * 2 ^ h + 2 ^ h by rw [Nat.add_mul, Nat.one_mul]]
      rw [e2, ← List.append_assoc]
      exact p
/-- Who is in, of the first m slots. -/
def placesF (inB : Nat → Bool) (m : Nat) : List (Nat × Nat) := (List.range m).filterMap fun s => pick inB ((segG s + 1) * 65537) s
theorem segG_of {g s : Nat} (h1 : 2 ^ g ≤ s + 1) (h2 : s + 1 < 2 ^ (g + 1)) : segG s = g := by
  unfold segG
  have h3 : 2 ^ Nat.log2 (s + 1) ≤ s + 1 := Nat.log2_self_le (by omega)
  have h4 : s + 1 < 2 ^ (Nat.log2 (s + 1) + 1) := Nat.lt_log2_self
  rcases Nat.lt_trichotomy (Nat.log2 (s + 1)) g with h | h | h
  · have : 2 ^ (Nat.log2 (s + 1) + 1) ≤ 2 ^ g := Nat.pow_le_pow_right (by omega) (by omega)
    omega
  · exact h
  · have : 2 ^ (g + 1) ≤ 2 ^ Nat.log2 (s + 1) := Nat.pow_le_pow_right (by omega) (by omega)
    omega
theorem filterMap_same {α β : Type} {f g : α → Option β} : ∀ {l : List α}, (∀ a ∈ l, f a = g a) → l.filterMap f = l.filterMap g
  | [], _ => rfl
  | a :: l, h => by
    rw [List.filterMap_cons, List.filterMap_cons, h a (by simp), filterMap_same fun b hb => h b (by simp [hb])]
theorem placesF_seg {inB : Nat → Bool} (g : Nat) : placesF inB (2 ^ (g + 1) - 1) = placesF inB (2 ^ g - 1) ++ leavesL inB g (2 ^ g) (2 ^ g) := by
  have hp : 1 ≤ 2 ^ g := Nat.one_le_two_pow
  unfold placesF leavesL
  rw [Nat.pow_succ, show 2 ^ g * 2 - 1 = (2 ^ g - 1) + 2 ^ g by omega, List.range_add, List.filterMap_append]
  refine congrArg (fun l => _ ++ l) ?_
  rw [List.range'_eq_map_range, List.filterMap_map, List.filterMap_map]
  apply filterMap_same
  intro i hi
  have hi := List.mem_range.1 hi
  simp only [Function.comp]
  rw [segG_of (g := g) (by omega) (by rw [Nat.pow_succ]; omega), show 2 ^ g - 1 + i = 2 ^ g + i - 1 by omega]
theorem still_segs {A : Ar} {n : Nat} {inB : Nat → Bool} (hS : Still A n inB) : ∀ g, g ≤ n → ∃ k y, k + 2 ≤ 2 ^ (g + 1) ∧ Path A k col0 y ∧ y.ph = 0 ∧ y.g = g ∧ y.pl = placesF inB (2 ^ g - 1)
  | 0, _ => ⟨0, col0, by decide, .nil _, rfl, rfl, rfl⟩
  | g + 1, hg => by
    have h8 := hS.le
    obtain ⟨k, y, hk, p, hp, hyg, hpl⟩ := still_segs hS g (by omega)
    obtain ⟨ph, yg, ynode, segs, pl⟩ := y
    dsimp only at hp hyg hpl
    subst hp hyg hpl
    have hst := Path.one (A := A) (x := ⟨0, yg, ynode, segs, placesF inB (2 ^ yg - 1)⟩) (.inl ⟨rfl, by show yg < 8; omega⟩)
    have e : colStep ⟨0, yg, ynode, segs, placesF inB (2 ^ yg - 1)⟩ A = ⟨1, yg, 1, updS segs yg ((yg + 1) * 65537), placesF inB (2 ^ yg - 1)⟩ := by
      show colLook _ A = _
      unfold colLook
      have e1 : A.rd 0 ((yg + 1 : Nat) : Int) = (yg + 1) * 65537 := by rw [hS.seg yg (by omega), if_pos (by omega)]
      simp only [e1]
      rw [if_neg (by omega)]
    rw [e] at hst
    obtain ⟨k2, hk2, p2⟩ := dfs hS (g := yg) (by omega) (updS segs yg ((yg + 1) * 65537)) (by unfold updS; rw [if_pos rfl]) yg 1 (placesF inB (2 ^ yg - 1)) (Nat.le_refl _) (by rw [Nat.sub_self]; decide) (by rw [Nat.sub_self]; decide)
    refine ⟨k + (1 + k2), _, by rw [Nat.pow_succ 2 (yg + 1)]; omega, p.trans (hst.trans p2), ?_⟩
    have hc : climb 1 1 = 1 := climb_stop (by omega)
    unfold colOn
    dsimp only
    rw [hc, if_neg (by omega), if_neg (by omega)]
    refine ⟨rfl, rfl, ?_⟩
    dsimp only
    rw [placesF_seg, Nat.one_mul]
theorem still_run {A : Ar} {n : Nat} {inB : Nat → Bool} (hS : Still A n inB) : ∃ k y, k + 1 ≤ 2 ^ (n + 1) ∧ Path A k col0 y ∧ y.ph = 2 ∧ y.pl = placesF inB (2 ^ n - 1) := by
  obtain ⟨k, y, hk, p, hp, hyg, hpl⟩ := still_segs hS n (Nat.le_refl _)
  have h8 := hS.le
  obtain ⟨ph, yg, ynode, segs, pl⟩ := y
  dsimp only at hp hyg hpl
  subst hp hyg hpl
  have hst := Path.one (A := A) (x := ⟨0, yg, ynode, segs, placesF inB (2 ^ yg - 1)⟩) (.inl ⟨rfl, h8⟩)
  refine ⟨k + 1, _, by omega, p.trans hst, ?_⟩
  show (colLook _ A).ph = 2 ∧ (colLook _ A).pl = _
  unfold colLook
  have e1 : A.rd 0 ((yg + 1 : Nat) : Int) = 0 := by rw [hS.seg yg h8, if_neg (Nat.lt_irrefl yg)]
  simp only [e1, if_true]
  exact ⟨trivial, trivial⟩
/-- Steps one behind the other. -/
def crC (A : Ar) : Nat → Col
  | 0 => col0
  | j + 1 => colStep (crC A j) A
def crA (A : Ar) : Nat → Ar
  | 0 => A
  | j + 1 => colRead (crC A j) (crA A j)
theorem colRead_word (x : Col) (A : Ar) (h i : Nat) : (colRead x A).word h i = A.word h i := by unfold colRead; split <;> rfl
theorem crA_word (A : Ar) (h i : Nat) : ∀ j, (crA A j).word h i = A.word h i
  | 0 => rfl
  | j + 1 => by rw [crA, colRead_word, crA_word A h i j]
theorem crA_rd (A : Ar) (j : Nat) (h i : Int) : (crA A j).rd h i = A.rd h i := by unfold Ar.rd; rw [crA_word]
theorem crA_has (A : Ar) (j : Nat) (h i : Int) : (crA A j).Has h i = A.Has h i := by unfold Ar.Has; rw [crA_word]
theorem colRead_faults (x : Col) (A : Ar) : (colRead x A).faults = A.faults := by unfold colRead; split <;> rfl
theorem crA_faults (A : Ar) : ∀ j, (crA A j).faults = A.faults
  | 0 => rfl
  | j + 1 => by rw [crA, colRead_faults, crA_faults A j]
theorem colStep_rd {A B : Ar} (h : ∀ a i, A.rd a i = B.rd a i) (x : Col) : colStep x A = colStep x B := by
  unfold colStep
  split
  · unfold colLook; rw [h]
  · unfold colCnt; rw [h]
  · rfl
theorem crC_step (A : Ar) (j : Nat) : colStep (crC A j) (crA A j) = crC A (j + 1) := colStep_rd (fun a i => crA_rd A j a i) _
theorem colOn_pl (x : Col) : (colOn x).pl = x.pl := by
  unfold colOn
  simp only
  split
  · rfl
  · split <;> rfl
theorem colStep_end {x : Col} {A : Ar} (h : x.ph = 2) : colStep x A = x := by
  obtain ⟨ph, g, node, segs, pl⟩ := x
  dsimp only at h
  subst h
  rfl
theorem colStep_len (x : Col) (A : Ar) : (colStep x A).pl.length ≤ x.pl.length + 1 := by
  unfold colStep
  split
  · unfold colLook
    simp only
    split <;> exact Nat.le_succ _
  · unfold colCnt
    split
    · rw [colOn_pl]; exact Nat.le_succ _
    · split
      · rw [colOn_pl, List.length_append]; exact Nat.le_refl _
      · exact Nat.le_succ _
  · exact Nat.le_succ _
theorem crC_len (A : Ar) : ∀ j, (crC A j).pl.length ≤ j
  | 0 => Nat.le_refl _
  | j + 1 => Nat.le_trans (colStep_len _ _) (Nat.succ_le_succ (crC_len A j))
theorem path_iter {A : Ar} : ∀ {k : Nat} {x y : Col}, Path A k x y → ∀ i, x = crC A i → (∀ j, i ≤ j → j < i + k → okS A (crC A j)) ∧ crC A (i + k) = y
  | _, _, _, .nil x, i, e => ⟨fun j h1 h2 => by omega, e.symm⟩
  | k + 1, x, y, .cons ho p, i, e => by
    obtain ⟨h1, h2⟩ := path_iter p (i + 1) (by rw [crC, e])
    refine ⟨fun j hj1 hj2 => ?_, by rw [← h2]; congr 1; omega⟩
    by_cases h : j = i
    · subst h; rw [← e]; exact ho
    · exact h1 j (by omega) (by omega)
theorem still_iter {A : Ar} {n : Nat} {inB : Nat → Bool} (hS : Still A n inB) : (∀ j, okS A (crC A j)) ∧ ∀ j, 2 ^ (n + 1) ≤ j → (crC A j).ph = 2 ∧ (crC A j).pl = placesF inB (2 ^ n - 1) := by
  obtain ⟨k, y, hk, p, hp, hpl⟩ := still_run hS
  obtain ⟨h1, h2⟩ := path_iter p 0 rfl
  rw [Nat.zero_add] at h2
  have h3 : ∀ i, crC A (k + i) = y := fun i => by
    induction i with
    | zero => exact h2
    | succ i ih =>
      rw [← Nat.add_assoc, crC, ih]
      exact colStep_end hp
  refine ⟨fun j => ?_, fun j hj => ?_⟩
  · by_cases h : j < k
    · exact h1 j (Nat.zero_le _) (by omega)
    · have := h3 (j - k)
      rw [show k + (j - k) = j by omega] at this
      rw [this]
      exact .inr (.inr hp)
  · have := h3 (j - k)
    rw [show k + (j - k) = j by omega] at this
    rw [this]
    exact ⟨hp, hpl⟩
theorem placesF_succ (inB : Nat → Bool) (m : Nat) : placesF inB (m + 1) = placesF inB m ++ (pick inB ((segG m + 1) * 65537) m).toList := by
  unfold placesF
  rw [List.range_succ, List.filterMap_append]
  refine congrArg (fun l => _ ++ l) ?_
  rw [List.filterMap_cons, List.filterMap_nil]
  cases pick inB ((segG m + 1) * 65537) m <;> rfl
theorem placesF_pre (inB : Nat → Bool) (m : Nat) : ∀ d, ∃ r, placesF inB (m + d) = placesF inB m ++ r
  | 0 => ⟨[], by simp⟩
  | d + 1 => by
    obtain ⟨r, h⟩ := placesF_pre inB m d
    exact ⟨r ++ (pick inB ((segG (m + d) + 1) * 65537) (m + d)).toList, by rw [← Nat.add_assoc, placesF_succ, h, List.append_assoc]⟩
theorem placesF_at {inB : Nat → Bool} {s m : Nat} (hs : s < m) (h : inB s = true) : (placesF inB s).length < (placesF inB m).length ∧ (placesF inB m)[(placesF inB s).length]? = some ((segG s + 1) * 65537, s) := by
  obtain ⟨r, hr⟩ := placesF_pre inB (s + 1) (m - (s + 1))
  rw [show s + 1 + (m - (s + 1)) = m by omega, placesF_succ] at hr
  have hp : pick inB ((segG s + 1) * 65537) s = some ((segG s + 1) * 65537, s) := by unfold pick; rw [if_pos h]
  rw [hp] at hr
  rw [hr]
  simp
theorem placesF_no {inB : Nat → Bool} {s : Nat} (h : inB s = false) : placesF inB (s + 1) = placesF inB s := by
  rw [placesF_succ]
  have hp : pick inB ((segG s + 1) * 65537) s = none := by unfold pick; rw [h]; rfl
  rw [hp]
  simp
theorem placesF_yes {inB : Nat → Bool} {s : Nat} (h : inB s = true) : (placesF inB (s + 1)).length = (placesF inB s).length + 1 := by
  rw [placesF_succ]
  have hp : pick inB ((segG s + 1) * 65537) s = some ((segG s + 1) * 65537, s) := by unfold pick; rw [if_pos h]
  rw [hp]
  simp
end Go.Proofs.Ytnfpkadepomjjaa

/- Slots that are entered one behind the other: a collect of them. No program in sight. -/
namespace Go.Proofs.Ytnfpkadepomjjaa
open Go Go.RowKit
set_option maxRecDepth 10000

theorem hitF_zero (sl : Nat → Nat) (i k : Nat) : hitF sl 0 i k = 0 := by
  induction k with
  | zero => rfl
  | succ k ih =>
    simp only [hitF, ih, onPath]
    rw [if_neg (by omega)]
theorem own_hit {sl : Nat → Nat} {g h node v : Nat} (hh : h ≤ g) (h1 : node * 2 ^ h ≤ v) (h2 : v < (node + 1) * 2 ^ h) (h3 : 2 ^ g ≤ v) (h4 : v < 2 ^ (g + 1)) (k : Nat) : ownF sl k (v - 1) ≤ hitF sl ((g + 1) * 65537) (5 * 2 ^ g + node) k := by
  have hp : 1 ≤ 2 ^ g := Nat.one_le_two_pow
  unfold ownF
  induction k with
  | zero => exact Nat.le_refl _
  | succ k ih =>
    simp only [countF, hitF]
    by_cases e : sl k = v - 1
    · have hs : sl k + 1 = v := by omega
      have hg : segG (sl k) = g := segG_of (by omega) (by omega)
      have hd : (sl k + 1) / 2 ^ h = node := by
        rw [hs]
        apply Nat.div_eq_of_lt_le
        · exact h1
        · exact h2
      rw [if_pos (by simpa using e), onPath_one (Nat.le_refl _), hg, if_pos ⟨rfl, h, by omega, by rw [hd]⟩]
      omega
    · rw [if_neg (by simpa using e)]
      omega
def isIn (sl : Nat → Nat) (k s : Nat) : Bool := decide (0 < ownF sl k s)
theorem TopInv.still {A0 A : Ar} {sl : Nat → Nat} {k : Nat} (h0 : SegOk 4 A0) (hsl : ∀ j, sl j ≤ 14) (h : TopInv A0 sl k A) : Still A 4 (isIn sl k) := by
  have hrd : ∀ {g node : Nat}, g < 4 → node < 2 * 2 ^ g → A.word ((g + 1) * 65537) (5 * 2 ^ g + node) = some (hitF sl ((g + 1) * 65537) (5 * 2 ^ g + node) k) := fun {g node} hg hn => h.rd h0 hg (by omega)
  have hcast : ∀ {g node : Nat}, A.rd (((g + 1) * 65537 : Nat) : Int) (5 * ((2 ^ g : Nat) : Int) + (node : Int)) = (A.word ((g + 1) * 65537) (5 * 2 ^ g + node)).getD 0 := fun {g node} => by
    unfold Ar.rd
    rw [Int.toNat_natCast, show (5 * ((2 ^ g : Nat) : Int) + (node : Int)).toNat = 5 * 2 ^ g + node by omega]
  refine ⟨by decide, fun g hg => ?_, fun g node hg h1 h2 => ?_, fun g hh node hg hle h1 h2 hz v hv1 hv2 => ?_, fun g node hg h1 h2 hz => ?_⟩
  · unfold Ar.rd
    rw [Int.toNat_natCast, show (0 : Int).toNat = 0 from rfl, h.2]
    have e : A0.word 0 (g + 1) = some (A0.fixed (g + 1)) := by unfold Ar.word; rw [if_pos rfl, if_pos (by omega)]
    rw [e, h0.fixed g hg, hitF_zero]
    rfl
  · refine ⟨Int.natCast_nonneg _, ?_, Int.natCast_nonneg _, ?_⟩
    · omega
    · rw [Int.toNat_natCast, Int.toNat_natCast, hrd hg h2]; rfl
  · have hp : 2 ^ (g - hh) * 2 ^ hh = 2 ^ g := by rw [← Nat.pow_add]; congr 1; omega
    have hp2 : 2 ^ (g - hh + 1) * 2 ^ hh = 2 ^ (g + 1) := by rw [← Nat.pow_add]; congr 1; omega
    have h3 : 2 ^ g ≤ v := by
      have := Nat.mul_le_mul_right (2 ^ hh) h1
      omega
    have h4 : v < 2 ^ (g + 1) := by
      have := Nat.mul_le_mul_right (2 ^ hh) (show node + 1 ≤ 2 ^ (g - hh + 1) from h2)
      omega
    have hnl : node < 2 * 2 ^ g := by
      have h5 : 2 ^ (g - hh + 1) ≤ 2 ^ (g + 1) := Nat.pow_le_pow_right (by omega) (by omega)
      rw [Nat.pow_succ 2 g] at h5
      omega
    rw [hcast, hrd hg hnl] at hz
    have hz : hitF sl ((g + 1) * 65537) (5 * 2 ^ g + node) k = 0 := hz
    have := own_hit (sl := sl) hle hv1 hv2 h3 h4 k
    unfold isIn
    rw [decide_eq_false]
    omega
  · have hnl : node < 2 * 2 ^ g := by rw [Nat.pow_succ] at h2; omega
    have hp : 1 ≤ 2 ^ g := Nat.one_le_two_pow
    have h16 : 2 ^ (g + 1) ≤ 2 ^ 4 := Nat.pow_le_pow_right (by omega) (by omega)
    rw [hcast, hrd hg hnl] at hz
    have hz : hitF sl ((g + 1) * 65537) (5 * 2 ^ g + node) k ≠ 0 := hz
    have hg' : segG (node - 1) = g := segG_of (by omega) (by omega)
    have ho := hit_own hsl (s := node - 1) (by omega) k
    rw [hg', show node - 1 + 1 = node by omega] at ho
    unfold isIn
    rw [decide_eq_true]
    omega
theorem TopInv.reads {A0 A : Ar} {sl : Nat → Nat} {k : Nat} (h : TopInv A0 sl k A) (j : Nat) : TopInv A0 sl k (crA A j) := ⟨by rw [crA_faults]; exact h.1, fun x i => by rw [crA_word]; exact h.2 x i⟩
end Go.Proofs.Ytnfpkadepomjjaa
