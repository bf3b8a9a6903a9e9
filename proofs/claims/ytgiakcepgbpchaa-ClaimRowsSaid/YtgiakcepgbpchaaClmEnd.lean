/- A hundred steps of a claim: where it ends. No program in sight. -/
import Derived.Test.YtgiakcepgbpchaaClmRun
set_option linter.all false
namespace Go.Proofs.Ytgiakcepgbpchaa
open Go Go.RowKit
set_option maxRecDepth 100000

def itC (s : CP) : Nat → CP
  | 0 => s
  | n + 1 => cpStep (itC s n)
def c0R (t : Int) : Clm := ⟨0, t.toNat, 0, 0, 0, 0, false, 0⟩
theorem itC_step (s : CP) : ∀ n, itC (cpStep s) n = itC s (n + 1)
  | 0 => rfl
  | n + 1 => congrArg cpStep (itC_step s n)
theorem CPath.it {k : Nat} {s y : CP} (h : CPath k s y) : itC s k = y ∧ ∀ j, j < k → cpOk (itC s j) := by
  induction h with
  | nil x => exact ⟨rfl, fun j hj => by omega⟩
  | @cons x y k ho _ ih =>
    obtain ⟨h1, h2⟩ := ih
    refine ⟨by rw [← itC_step]; exact h1, fun j hj => ?_⟩
    cases j with
    | zero => exact ho
    | succ j =>
      rw [← itC_step]
      exact h2 j (by omega)
theorem cp_still {s : CP} (h : s.1.ph = 5) : cpStep s = s ∧ cpOk s := by
  obtain ⟨⟨ph, tok, seg, slot, g, priv, got, e⟩, x⟩ := s
  cases h
  exact ⟨rfl, trivial, le5 rfl⟩
theorem itC_end {k : Nat} {s y : CP} (h : itC s k = y) (h5 : y.1.ph = 5) : ∀ j, itC s (k + j) = y
  | 0 => h
  | j + 1 => by
    show cpStep (itC s (k + j)) = y
    rw [itC_end h h5 j]
    exact (cp_still h5).1
theorem costF_le : ∀ (n s : Nat), costF s n ≤ 2 * n
  | 0, _ => Nat.le_refl _
  | n + 1, s => by
    have := costF_le n (s + 1)
    simp only [costF]
    split <;> omega
theorem costF_mono : ∀ (n m s : Nat), n ≤ m → costF s n ≤ costF s m
  | 0, _, _, _ => Nat.zero_le _
  | n + 1, 0, _, h => by omega
  | n + 1, m + 1, s, h => by
    have := costF_mono n m (s + 1) (by omega)
    simp only [costF]
    omega
theorem cost60 : costF 0 60 = 66 := by decide
/-- A hundred steps from the begin: each is covered, and the slot is the first free one. -/
theorem run100 {x : PA} {G : Nat} {own : Nat → Nat} (h : OwnOk x G own) {tok : Int} (h0 : 0 ≤ tok) (ht : tok < 18446744073709551616) {t : Nat} (h60 : t ≤ 60) (hpass : ∀ u, u < t → u + 1 < 2 ^ G ∧ own u ≠ 0) (hend : (t + 1 < 2 ^ G ∧ own t = 0) ∨ (t + 1 = 2 ^ G ∧ G < 8)) :
    (∀ j, j ≤ 100 → cpOk (itC (c0R tok, x) j)) ∧ ∃ G' own', Ends G own tok.toNat t (itC (c0R tok, x) 100).1 (itC (c0R tok, x) 100).2 G' own' := by
  obtain ⟨k, c, x', G', own', hk, p, en⟩ := reach (tok := tok.toNat) (by omega) t (s := 0) (ph := 0) (seg := 0) (g := 0) (priv := 0) h (by omega) (fun hh => absurd (show segO 0 = 0 by decide) hh) (fun u _ hu => hpass u (by omega)) (by rw [Nat.zero_add]; exact hend)
  rw [Nat.zero_add] at en
  have e0 : (clmOn ⟨0, tok.toNat, 0, 0, 0, 0, false, 0⟩, x) = ((c0R tok, x) : CP) := by
    rw [on_eq (by decide), if_pos (by decide), show segG 0 = 0 by decide]; rfl
  rw [e0] at p
  obtain ⟨p1, p2⟩ := p.it
  have h5 : (c, x').1.ph = 5 := en.ph
  have hk2 : k ≤ 100 := by
    have := costF_mono t 60 0 h60
    rw [cost60] at this
    omega
  have e100 : itC (c0R tok, x) 100 = (c, x') := by
    have := itC_end p1 h5 (100 - k)
    rwa [show k + (100 - k) = 100 by omega] at this
  refine ⟨fun j hj => ?_, G', own', by rw [e100]; exact en⟩
  rcases Nat.lt_or_ge j k with hjk | hjk
  · exact p2 j hjk
  · have := itC_end p1 h5 (j - k)
    rw [show k + (j - k) = j by omega] at this
    rw [this]
    exact (cp_still h5).2
def plR (j : Nat) : List Value := [.int .u64 (((segG j + 1) * 65537 : Nat) : Int), .int .i64 (j : Int)]
structure R1 (cnt : Nat) where
  i : Nat
  cap : Nat
  x : PA
  G : Nat
  own : Nat → Nat
  hi : i ≤ cnt
  ok : OwnOk x G own
  is : i + 1 ≤ 2 ^ G
  mine : ∀ u, u < i → own u ≠ 0
  free : ∀ u, i ≤ u → u + 1 < 2 ^ G → own u = 0
structure R3 (cnt m : Nat) where
  k : Nat
  cap : Nat
  least : Nat
  x : PA
  G : Nat
  own : Nat → Nat
  hk : k ≤ m
  ok : OwnOk x G own
  is : cnt + 1 ≤ 2 ^ G
  hl : least ≤ cnt
  mine : ∀ u, u < least → own u ≠ 0
  hole : least < cnt → own least = 0
  free : ∀ u, cnt ≤ u → u + 1 < 2 ^ G → own u = 0
theorem pow_le8 {i G : Nat} (h : i + 1 = 2 ^ G) (hi : i ≤ 60) : G < 8 := by
  rcases Nat.lt_or_ge G 8 with h8 | h8
  · exact h8
  · have : 2 ^ 8 ≤ 2 ^ G := Nat.pow_le_pow_right (by omega) h8
    omega
theorem R1.run {cnt : Nat} (hc : cnt ≤ 60) (y : R1 cnt) : (∀ j, j ≤ 100 → cpOk (itC (c0R ((y.i : Int) + 1), y.x) j)) ∧ ∃ G' own', Ends y.G y.own ((y.i : Int) + 1).toNat y.i (itC (c0R ((y.i : Int) + 1), y.x) 100).1 (itC (c0R ((y.i : Int) + 1), y.x) 100).2 G' own' := by
  have hi := y.hi
  have is := y.is
  refine run100 y.ok (by omega) (by omega) (by omega) (fun u hu => ⟨by omega, y.mine u hu⟩) ?_
  rcases Nat.lt_or_ge (y.i + 1) (2 ^ y.G) with h | h
  · exact .inl ⟨h, y.free y.i (Nat.le_refl _) h⟩
  · exact .inr ⟨by omega, pow_le8 (by omega) (show y.i ≤ 60 by omega)⟩
theorem R1.next {cnt : Nat} (hc : cnt ≤ 60) (y : R1 cnt) (hlt : y.i < cnt) (cap : Nat) : ∃ z : R1 cnt, z.i = y.i + 1 ∧ z.cap = cap ∧ z.x = (itC (c0R ((y.i : Int) + 1), y.x) 100).2 := by
  obtain ⟨_, G', own', en⟩ := y.run hc
  generalize itC (c0R ((y.i : Int) + 1), y.x) 100 = s at en ⊢
  have is := y.is
  have hlt2 := en.lt
  have ht : ((y.i : Int) + 1).toNat = y.i + 1 := by omega
  refine ⟨⟨y.i + 1, cap, _, G', own', by omega, en.ok, by omega, fun u hu => ?_, fun u hu h2 => ?_⟩, rfl, rfl, rfl⟩
  · rcases Nat.lt_or_ge (u + 1) (2 ^ y.G) with h | h
    · rw [en.old u h]
      split
      · omega
      · exact y.mine u (by omega)
    · rw [en.new u h (by omega)]
      rw [if_pos (by omega)]; omega
  · rcases Nat.lt_or_ge (u + 1) (2 ^ y.G) with h | h
    · rw [en.old u h, if_neg (by omega)]
      exact y.free u (by omega) h
    · rw [en.new u h h2, if_neg (by omega)]
theorem R1.zero (cnt : Nat) : ∃ z : R1 cnt, z.i = 0 ∧ z.x = PA.new 60000 := ⟨{ i := 0, cap := 0, x := PA.new 60000, G := 0, own := fun _ => 0, hi := Nat.zero_le _, ok := OwnOk.new, is := Nat.le_refl 1, mine := fun u hu => absurd hu (Nat.not_lt_zero u), free := fun u _ _ => rfl }, rfl, rfl⟩
theorem R1.last {cnt m : Nat} (y : R1 cnt) (h : y.i = cnt) : ∃ z : R3 cnt m, z.k = 0 ∧ z.cap = y.cap ∧ z.least = cnt ∧ z.x = y.x :=
  ⟨⟨0, y.cap, cnt, y.x, y.G, y.own, Nat.zero_le _, y.ok, by have := y.is; omega, Nat.le_refl _, fun u hu => y.mine u (by omega), fun hh => by omega, fun u hu h2 => y.free u (by omega) h2⟩, rfl, rfl, rfl, rfl⟩
theorem R3.has {cnt m : Nat} (hc : cnt ≤ 60) (y : R3 cnt m) {s : Nat} (hs : s < cnt) : y.x.Has (((segG s + 1) * 65537 : Nat) : Int) (5 * ((segO s : Nat) : Int)) := by
  have := y.is
  exact (own_rd y.ok (by omega)).1
theorem R3.put {cnt m : Nat} (hc : cnt ≤ 60) (y : R3 cnt m) {s : Nat} (hs : s < cnt) (hk : y.k < m) : ∃ z : R3 cnt m, z.k = y.k + 1 ∧ z.cap = y.cap ∧ z.least = min y.least s ∧ z.x = y.x.writeQ (((segG s + 1) * 65537 : Nat) : Int) (5 * ((segO s : Nat) : Int)) 0 := by
  have is := y.is
  have hl := y.hl
  refine ⟨⟨y.k + 1, y.cap, min y.least s, (y.x.set ((segG s + 1) * 65537) (5 * segO s) 0).tick fun t => { t with writes := t.writes + 1 }, y.G, _, by omega, y.ok.put (s := s) (by omega) (by omega) 0 _, is, by omega, fun u hu => ?_, fun hh => ?_, fun u hu h2 => ?_⟩, rfl, rfl, rfl, ?_⟩
  · show (if u = s then 0 else y.own u) ≠ 0
    rw [if_neg (by omega)]
    exact y.mine u (by omega)
  · show (if min y.least s = s then 0 else y.own (min y.least s)) = 0
    split
    · rfl
    · have e : min y.least s = y.least := by omega
      rw [e]
      exact y.hole (by omega)
  · show (if u = s then 0 else y.own u) = 0
    rw [if_neg (by omega)]
    exact y.free u hu h2
  · show _ = PA.write _ _ _ _
    rw [show (5 * ((segO s : Nat) : Int)).toNat = 5 * segO s by omega, Int.toNat_natCast]
    rfl
theorem R3.run {cnt m : Nat} (hc : cnt ≤ 60) (y : R3 cnt m) : (∀ j, j ≤ 100 → cpOk (itC (c0R 99, y.x) j)) ∧ ∃ G' own', Ends y.G y.own 99 y.least (itC (c0R 99, y.x) 100).1 (itC (c0R 99, y.x) 100).2 G' own' := by
  have hl := y.hl
  have is := y.is
  refine run100 (tok := 99) y.ok (by decide) (by decide) (by omega) (fun u hu => ⟨by omega, y.mine u hu⟩) ?_
  rcases Nat.lt_or_ge y.least cnt with h | h
  · exact .inl ⟨by omega, y.hole h⟩
  · have e : y.least = cnt := by omega
    rw [e]
    rcases Nat.lt_or_ge (cnt + 1) (2 ^ y.G) with h2 | h2
    · exact .inl ⟨h2, y.free cnt (Nat.le_refl _) h2⟩
    · exact .inr ⟨by omega, pow_le8 (by omega) hc⟩
theorem R1.at {cnt : Nat} (hc : cnt ≤ 60) (y : R1 cnt) {j : Nat} (hj : j ≤ 100) : cpOk (itC (c0R ((y.i : Int) + 1), y.x) j) := (y.run hc).1 j hj
theorem R1.end {cnt : Nat} (hc : cnt ≤ 60) (y : R1 cnt) {j : Nat} (hj : j = 100) : ∃ G' own', Ends y.G y.own ((y.i : Int) + 1).toNat y.i (itC (c0R ((y.i : Int) + 1), y.x) j).1 (itC (c0R ((y.i : Int) + 1), y.x) j).2 G' own' := by
  rw [hj]
  exact (y.run hc).2
theorem R1.then {cnt : Nat} (hc : cnt ≤ 60) (y : R1 cnt) (hlt : y.i < cnt) (cap : Nat) {j : Nat} (hj : j = 100) : ∃ z : R1 cnt, z.i = y.i + 1 ∧ z.cap = cap ∧ z.x = (itC (c0R ((y.i : Int) + 1), y.x) j).2 := by
  rw [hj]
  exact y.next hc hlt cap
theorem R3.at {cnt m : Nat} (hc : cnt ≤ 60) (y : R3 cnt m) {j : Nat} (hj : j ≤ 100) : cpOk (itC (c0R 99, y.x) j) := (y.run hc).1 j hj
theorem R3.end {cnt m : Nat} (hc : cnt ≤ 60) (y : R3 cnt m) {j : Nat} (hj : j = 100) : ∃ G' own', Ends y.G y.own 99 y.least (itC (c0R 99, y.x) j).1 (itC (c0R 99, y.x) j).2 G' own' := by
  rw [hj]
  exact (y.run hc).2
theorem itC_fst (s : CP) (n : Nat) : (itC s (n + 1)).1 = clmStep (itC s n).1 (itC s n).2 := rfl
theorem itC_snd (s : CP) (n : Nat) : (itC s (n + 1)).2 = clmA (itC s n).1 (itC s n).2 := rfl
end Go.Proofs.Ytgiakcepgbpchaa
