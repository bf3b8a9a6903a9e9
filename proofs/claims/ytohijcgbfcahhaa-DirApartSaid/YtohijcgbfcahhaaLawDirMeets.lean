/- DirMeets: the walk. The paths of two slots of one segment meet, and go on together to the node 1; each node is that below it halved. -/
import Derived.Test.YtohijcgbfcahhaaDirE
namespace Go.Proofs.Ytohijcgbfcahhaa
open Go.RowKit

def nodeAt (s i : Nat) : Nat := (s + 1) / 2 ^ i
theorem nodeAt_top {s : Nat} (h : s ≤ 254) : nodeAt s (segG s) = 1 := by
  obtain ⟨_, f2, f3⟩ := seg_facts h
  unfold nodeAt
  exact Nat.div_eq_of_lt_le (by omega) (by omega)
theorem nodeAt_half (s i : Nat) : nodeAt s (i + 1) = nodeAt s i / 2 := path_half s i
theorem nodeAt_zero (s : Nat) : nodeAt s 0 = s + 1 := by simp [nodeAt]
theorem nodeAt_le {s : Nat} (h : s ≤ 254) (i : Nat) : nodeAt s i ≤ 255 := Nat.le_trans (Nat.div_le_self _ _) (by omega)
/-- Have the two paths met ahead of the place i? -/
def togB (a b : Nat) : Nat → Bool
  | 0 => false
  | i + 1 => nodeAt a i == nodeAt b i

/-- Two paths as rows, in a world above the call's own. -/
structure Paths2 (w wr : World) (a b p q : Nat) : Prop where
  below : Below w.heap.size w wr
  x : ∀ i, i ≤ segG a → wr.cell? ⟨p, i, none⟩ = some (.int .i64 (nodeAt a i))
  y : ∀ i, i ≤ segG b → wr.cell? ⟨q, i, none⟩ = some (.int .i64 (nodeAt b i))
theorem Paths2.draws {w wr : World} {a b p q : Nat} (h : Paths2 w wr a b p q) (n : Nat) : Paths2 w (wr.drewN n) a b p q := ⟨below_drewN h.below n, h.x, h.y⟩
theorem row_cells {w : World} {base e s g cap : Nat} (h : w.ownsRow base e 1 (.slice (some ⟨g, 0, none⟩) (segG s + 1) cap) (segG s + 1) (ints (pathOf s))) (i : Nat) (hi : i ≤ segG s) :
    w.cell? ⟨g, i, none⟩ = some (.int .i64 (nodeAt s i)) := by
  rw [h.cellAt i (by omega)]
  simp [ints, pathOf, pathF, nodeAt, show i < segG s + 1 by omega]

set_option maxHeartbeats 1000000 in
set_option maxRecDepth 100000 in
theorem dirMeets_in (a b : Nat) (w : World) (ha : a ≤ 254) (hb : b ≤ 254) :
    Calls Try.prog 9 #[.int .u8 a, .int .u8 b] w fun e w' => e = .returned (.bool true) ∧ Below w.heap.size w w' := by
  have ga := (seg_facts ha).1
  have gb := (seg_facts hb).1
  go_enter Try.func9, Try.ntmps9
  go_wp2_with fail
  refine (first10 _).mono ?_; rintro e w1 ⟨rfl, hb1⟩
  go_wp2_with fail
  refine (path_yes a _ ha).mono ?_; rintro e w2 ⟨v, rfl, hown, hb2⟩
  obtain ⟨p, cp, rfl, hp1, hp2⟩ := hown.form (by omega)
  have cx := row_cells hown
  replace hb2 := hb1.trans (hb2.mono hb1.size)
  clear hown hb1
  have Cx := Lib.hid cx; clear cx
  go_wp2_with fail
  refine (path_yes b _ hb).mono ?_; rintro e w3 ⟨v, rfl, hown, hb3⟩
  obtain ⟨q, cq, rfl, hq1, hq2⟩ := hown.form (by omega)
  have cy := row_cells hown
  have x3 := Ext.of_below hb3
  have H : Hid (Paths2 w w3 a b p q) := ⟨hb2.trans (hb3.mono hb2.size), fun i hi => x3.cell (Cx.out i hi), cy⟩
  clear hown hb2 hb3 cy Cx x3
  go_wp2_with fail
  refine (segment_yes a _ ha).mono ?_; rintro e w' ⟨rfl, n1, rfl⟩
  go_wp2_with fail
  refine (segment_yes b _ hb).mono ?_; rintro e w' ⟨rfl, n2, rfl⟩
  replace H := (H.out.draws n1).draws n2
  obtain ⟨w4, hw4⟩ : ∃ w4, (w3.drewN n1).drewN n2 = w4 := ⟨_, rfl⟩
  rw [hw4] at H ⊢
  have c1 := H.x (segG a) (Nat.le_refl _)
  have c2 := H.y (segG b) (Nat.le_refl _)
  rw [nodeAt_top ha] at c1
  rw [nodeAt_top hb] at c2
  have HH := Lib.hid H
  clear hw4 H hp1 hp2 hq1 hq2
  have hgab : Hid (segG a ≠ segG b → a ≠ b) := fun h e => h (by rw [e])
  go_wp2
  clear c1 c2
  go_loopw [13] (fun i wr => ∃ k : Nat, 1 ≤ k ∧ k ≤ segG a + 1 ∧ i = .int .i64 k ∧ Paths2 w wr a b p q) (fun i _ => segG a + 1 - (intOf i).toNat)
  case atStart => exact ⟨1, by omega, by omega, rfl, HH.out⟩
  case round =>
    obtain ⟨k, hk1, hk2, rfl, H⟩ := hrel
    clear HH
    by_cases hlt : k ≤ segG a
    · have cx := H.x k hlt
      have cx' := H.x (k - 1) (by omega)
      have e1 : nodeAt a k = nodeAt a (k - 1) / 2 := by
        have := nodeAt_half a (k - 1); rwa [show k - 1 + 1 = k by omega] at this
      rw [e1] at cx
      have hle := nodeAt_le ha (k - 1)
      have HH := Lib.hid H
      clear H e1
      obtain ⟨j, rfl⟩ : ∃ j, k = j + 1 := ⟨k - 1, by omega⟩
      simp only [Nat.add_sub_cancel] at cx cx' hle
      generalize nodeAt a j = m at *
      have hjj : Hid (((j : Int) + 1 - 1).toNat = j) := by show _ = _; omega
      go_wp2
      go_quiet (fail)
      go_wp2
      go_roundw
      case rel => exact ⟨j + 2, by omega, by omega, by go_num, HH.out.draws _⟩
      case measure => simp [intOf]; omega
    · by_cases hgg : segG a = segG b
      · have hne : ((segG a : Int) != (segG b : Int)) = false := by rw [hgg]; simp
        have HH := Lib.hid H
        clear H
        have Hgg := Lib.hid hgg
        clear hgg
        go_wp2
        go_loopw [14, 106] (fun t i wr => ∃ k : Nat, k ≤ segG a + 1 ∧ i = .int .i64 k ∧ t = .bool (togB a b k) ∧ Paths2 w wr a b p q) (fun _ i _ => segG a + 1 - (intOf i).toNat)
        case atStart => exact ⟨0, by omega, rfl, rfl, HH.out⟩
        case round =>
          obtain ⟨i, hi, rfl, rfl, H⟩ := hrel
          clear HH hgab hlt
          by_cases hlt : i < segG a + 1
          · have cx := H.x i (by omega)
            have cy := H.y i (by have := Hgg.out; omega)
            have hib : i < segG b + 1 := by have := Hgg.out; omega
            have HH := Lib.hid H
            have hsucc : Hid (togB a b (i + 1) = (nodeAt a i == nodeAt b i)) := rfl
            have hmet : Hid (togB a b i = true → nodeAt a i = nodeAt b i) := by
              intro ht
              match i, ht with
              | j + 1, ht => rw [nodeAt_half, nodeAt_half, eq_of_beq (show (nodeAt a j == nodeAt b j) = true from ht)]
            clear H
            cases htog : togB a b i
            · have Ht := Lib.hid htog
              clear htog hmet
              have hbq : ((nodeAt a i : Int) == (nodeAt b i : Int)) = (nodeAt a i == nodeAt b i) := by rw [Bool.eq_iff_iff]; simp; omega
              generalize (nodeAt a i == nodeAt b i) = tb at *
              go_wp2
              go_quiet (fail)
              go_wp2
              go_quiet (fail)
              go_wp2
              go_roundw
              case rel => exact ⟨i + 1, by omega, by go_num, by rw [hsucc.out], HH.out.draws _⟩
              case measure => simp [intOf]; omega
            · have he := hmet.out htog
              have Hs : Hid (togB a b (i + 1) = true) := by show _ = _; rw [hsucc.out, he]; simp
              rw [he] at cx
              clear htog hmet he hsucc
              go_wp2
              go_quiet (fail)
              go_wp2
              go_quiet (fail)
              go_wp2
              go_roundw
              case rel => exact ⟨i + 1, by omega, by go_num, by rw [Hs.out], HH.out.draws _⟩
              case measure => simp [intOf]; omega
          · obtain rfl : i = segG a + 1 := by omega
            have ht : togB a b (segG a + 1) = true := by
              show (nodeAt a (segG a) == nodeAt b (segG a)) = true
              rw [nodeAt_top ha, show segG a = segG b from Hgg.out, nodeAt_top hb]; rfl
            have cx := H.x 0 (Nat.zero_le _)
            have cy := H.y 0 (Nat.zero_le _)
            rw [nodeAt_zero] at cx cy
            have HH := Lib.hid H
            clear H
            rw [ht]
            have hq : (((a : Int) + 1 == (b : Int) + 1) == ((a : Int) == (b : Int))) = true := by
              rw [beq_iff_eq, Bool.eq_iff_iff]; simp
            clear ht
            go_wp2
            go_quiet (fail)
            go_wp2
            go_ret
            exact ⟨by simp [hq], (HH.out.draws _).below⟩
      · have hne : ((segG a : Int) == (segG b : Int)) = false := by simp; omega
        have hab : ((a : Int) == (b : Int)) = false := by have := hgab.out hgg; simp; omega
        have HH := Lib.hid H
        clear H
        go_wp2
        go_ret
        exact ⟨by simp; have := hgab.out hgg; omega, HH.out.below⟩

set_option maxHeartbeats 1000000 in
set_option maxRecDepth 100000 in
theorem dirMeets_out (a b : Nat) (w : World) (ha : a ≤ 255) (hb : b ≤ 255) (h : a = 255 ∨ b = 255) :
    Calls Try.prog 9 #[.int .u8 a, .int .u8 b] w fun e w' => e = .returned (.bool true) ∧ Below w.heap.size w w' := by
  by_cases h1 : a = 255
  · subst h1
    clear h
    by_cases h2 : b = 255
    · subst h2
      go_enter Try.func9, Try.ntmps9
      go_wp2_with fail
      refine (first10 _).mono ?_; rintro e w1 ⟨rfl, hb1⟩
      go_wp2_with fail
      refine (path_no 255 _ (by omega)).mono ?_; rintro e w2 ⟨rfl, rfl⟩
      go_wp2_with fail
      refine (path_no 255 _ (by omega)).mono ?_; rintro e w2 ⟨rfl, rfl⟩
      go_wp2_with fail
      refine (segment_no 255 _ (by omega)).mono ?_; rintro e w2 ⟨rfl, rfl⟩
      go_wp2_with fail
      refine (segment_no 255 _ (by omega)).mono ?_; rintro e w2 ⟨rfl, rfl⟩
      go_wp2
      go_ret
      exact ⟨rfl, hb1⟩
    · go_enter Try.func9, Try.ntmps9
      go_wp2_with fail
      refine (first10 _).mono ?_; rintro e w1 ⟨rfl, hb1⟩
      go_wp2_with fail
      refine (path_no 255 _ (by omega)).mono ?_; rintro e w2 ⟨rfl, rfl⟩
      go_wp2_with fail
      refine (path_yes b _ (by omega)).mono ?_; rintro e w2 ⟨v, rfl, hown, hb2⟩
      have hbb := hb1.trans (hb2.mono hb1.size)
      clear hown hb2
      go_wp2_with fail
      refine (segment_no 255 _ (by omega)).mono ?_; rintro e w3 ⟨rfl, rfl⟩
      go_wp2_with fail
      refine (segment_yes b _ (by omega)).mono ?_; rintro e w3 ⟨rfl, n, rfl⟩
      go_wp2
      go_ret
      exact ⟨rfl, below_drewN hbb _⟩
  · obtain rfl : b = 255 := by omega
    clear h
    go_enter Try.func9, Try.ntmps9
    go_wp2_with fail
    refine (first10 _).mono ?_; rintro e w1 ⟨rfl, hb1⟩
    go_wp2_with fail
    refine (path_yes a _ (by omega)).mono ?_; rintro e w2 ⟨v, rfl, hown, hb2⟩
    have hbb := hb1.trans (hb2.mono hb1.size)
    clear hown hb2
    go_wp2_with fail
    refine (path_no 255 _ (by omega)).mono ?_; rintro e w2 ⟨rfl, rfl⟩
    go_wp2_with fail
    refine (segment_yes a _ (by omega)).mono ?_; rintro e w3 ⟨rfl, n, rfl⟩
    go_wp2_with fail
    refine (segment_no 255 _ (by omega)).mono ?_; rintro e w3 ⟨rfl, rfl⟩
    go_wp2
    go_ret
    exact ⟨rfl, below_drewN hbb _⟩

theorem dirMeets_nat (a b : Nat) (w : World) (ha : a ≤ 255) (hb : b ≤ 255) :
    Calls Try.prog 9 #[.int .u8 a, .int .u8 b] w fun e w' => e = .returned (.bool true) ∧ Below w.heap.size w w' := by
  by_cases h : a = 255 ∨ b = 255
  · exact dirMeets_out a b w ha hb h
  · exact dirMeets_in a b w (by omega) (by omega)
end Go.Proofs.Ytohijcgbfcahhaa
