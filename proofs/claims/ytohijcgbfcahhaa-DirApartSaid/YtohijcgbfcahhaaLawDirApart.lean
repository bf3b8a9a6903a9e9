/- DirApart: the walk. No two words of a segment's slots and counters have one address, and all lie in its block. -/
import Derived.Test.YtohijcgbfcahhaaLawDirMeets
import Derived.Test.YtohijcgbfcahhaaPlainA
import Derived.OwnWalk
import Derived.Deep.OwnRows
namespace Go.Proofs.Ytohijcgbfcahhaa
open Go.RowKit

/-- How many slots below s lie in the segment k. -/
def cntF (k s : Nat) : Nat := min (s + 1 - 2 ^ k) (2 ^ k)
theorem cnt_zero (k : Nat) : cntF k 0 = 0 := by have := @Nat.one_le_two_pow k; unfold cntF; omega
theorem cnt_end {k : Nat} (h : k ≤ 7) : cntF k 255 = 2 ^ k := by have := pow_le h; unfold cntF; omega
theorem cnt_in {k s : Nat} (hs : s ≤ 254) (h : segG s = k) : cntF k s = segO s ∧ segO s < 2 ^ k ∧ cntF k (s + 1) = segO s + 1 := by
  obtain ⟨_, f2, f3⟩ := seg_facts hs
  rw [h] at f2 f3
  unfold cntF segO
  rw [h]; omega
theorem cnt_out {k s : Nat} (hs : s ≤ 254) (h : segG s ≠ k) : cntF k (s + 1) = cntF k s := by
  obtain ⟨_, f2, f3⟩ := seg_facts hs
  unfold cntF
  rcases Nat.lt_or_ge (segG s) k with h1 | h1
  · have : 2 ^ (segG s + 1) ≤ 2 ^ k := Nat.pow_le_pow_right (by omega) h1
    rw [Nat.pow_succ] at this; omega
  · have : 2 ^ (k + 1) ≤ 2 ^ segG s := Nat.pow_le_pow_right (by omega) (by omega)
    rw [Nat.pow_succ] at this; omega

/-- The row of marks in the block S: 2000 numbers, f of each place. -/
structure Marks (w wr : World) (S : Nat) (f : Nat → Nat) : Prop where
  below : Below w.heap.size w wr
  base : w.heap.size ≤ S
  lt : S < wr.heap.size
  cell : ∀ x, x < 2000 → wr.cell? ⟨S, x, none⟩ = some (.int .i64 (f x))
  free : ∀ x, wr.frozen? ⟨S, x, none⟩ = false
theorem Marks.ext {w wr w' : World} {S : Nat} {f : Nat → Nat} (h : Marks w wr S f) (hb : Below wr.heap.size wr w') : Marks w w' S f :=
  ⟨h.below.trans (hb.mono h.below.size), h.base, Nat.lt_of_lt_of_le h.lt hb.size, fun x hx => (hb.cell (p := ⟨S, x, none⟩) h.lt).trans (h.cell x hx), fun x => (hb.frozen (p := ⟨S, x, none⟩) h.lt).trans (h.free x)⟩
theorem Marks.set {w wr : World} {S : Nat} {f : Nat → Nat} (h : Marks w wr S f) (y : Nat) (v : Nat) : Marks w (wr.setCell ⟨S, y, none⟩ (.int .i64 v)) S (fun x => if x = y then v else f x) :=
  ⟨h.below.setCell h.base _, h.base, by simpa [World.setCell] using h.lt, fun x hx => by
    by_cases e : x = y
    · subst e; rw [if_pos rfl]; exact World.cell?_setCell_same _ _ _ (h.cell x hx)
    · rw [if_neg e, World.cell?_setCell_other _ _ _ _ (by simp)]; exact h.cell x hx, fun x => (World.frozen?_setCell _ _ _ _).trans (h.free x)⟩
theorem Marks.congr {w wr : World} {S : Nat} {f g : Nat → Nat} (h : Marks w wr S f) (e : ∀ x, f x = g x) : Marks w wr S g := by rw [show g = f from (funext fun x => (e x).symm)]; exact h

/-- The first c places are marked. -/
def fstF (c x : Nat) : Nat := if x < c then 1 else 0
/-- .. and, behind the slots' words P, those from P + 1 to P + n. -/
def sndF (P n x : Nat) : Nat := if x < P ∨ (P < x ∧ x ≤ P + n) then 1 else 0
theorem fst_succ (c x : Nat) : (if x = c then 1 else fstF c x) = fstF (c + 1) x := by unfold fstF; (repeat' split) <;> omega
theorem snd_succ (P n x : Nat) : (if x = P + (n + 1) then 1 else sndF P n x) = sndF P (n + 1) x := by unfold sndF; (repeat' split) <;> omega
theorem fst_snd (P x : Nat) : fstF P x = sndF P 0 x := by unfold fstF sndF; (repeat' split) <;> omega

set_option maxHeartbeats 1000000 in
set_option maxRecDepth 100000 in
theorem dirApart_nat (g sg : Nat) (w : World) (hg : g ≤ 255) (hs : sg < TW) :
    Calls Try.prog 8 #[.int .u8 g, .int .u64 sg] w fun e w' => e = .returned (.bool true) ∧ Below w.heap.size w w' := by
  have hmk : ∀ w, (Instr.makeSlice 47 (.int .i64 2000) (.int .i64 2000)).run Try.prog w = .ok (.slice (some ⟨w.heap.size, 0, none⟩) 2000 2000) (w.alloc (.cells (madeCells #[.int .i64 0] 2000) 3)) := fun w =>
    run_make_row' (P := Try.prog) 47 3 (.int .i64 0) 8 Try.underlying47 info_int rfl .i64 .i64 2000 (by omega) (by omega) w
  obtain ⟨k, hk⟩ : ∃ k, g % 8 = k := ⟨_, rfl⟩
  have Hk : Hid ((g : Int) % 8 = (k : Int)) := by show _ = _; omega
  have hk7 : k ≤ 7 := by omega
  clear hk
  go_enter Try.func8, Try.ntmps8
  go_wp2_with fail
  refine (first10 _).mono ?_; rintro e w1 ⟨rfl, hb1⟩
  go_wp2
  rw [Hk.out]
  clear hmk
  have HM : Hid (Marks w (w1.alloc (.cells (madeCells #[.int .i64 0] 2000) 3)) w1.heap.size (fstF 0)) := by
    refine ⟨hb1.alloc hb1.size _, hb1.size, by simp, fun x hx => ?_, fun x => ?_⟩
    · have e : (madeCells #[Value.int .i64 0] 2000)[x]? = some (.int .i64 0) := by rw [← Array.getElem?_toList, toList_madeCells_one, List.getElem?_replicate, if_pos hx]
      rw [World.cell?_alloc_at _ _ _ _ rfl]
      simpa [fstF] using e
    · exact World.frozen?_alloc_at _ _ _ _ rfl
  generalize (w1.alloc (.cells (madeCells #[.int .i64 0] 2000) 3)) = w2 at *
  generalize w1.heap.size = S at *
  go_loopw [7, 27] (fun c i wr => ∃ s : Nat, s ≤ 255 ∧ i = .int .i64 s ∧ c = .int .i64 (5 * (cntF k s : Int)) ∧ Marks w wr S (fstF (5 * cntF k s))) (fun _ i _ => 255 - (intOf i).toNat)
  case atStart => exact ⟨0, by omega, rfl, by rw [cnt_zero]; rfl, by rw [cnt_zero]; exact HM.out⟩
  case round =>
    obtain ⟨s, hs255, rfl, rfl, HM'⟩ := hrel
    clear HM
    have HM := Lib.hid HM'
    clear HM'
    by_cases hlt : s < 255
    · by_cases hseg : segG s = k
      · obtain ⟨e1, e2, e3⟩ := cnt_in (by omega) hseg
        have Hn := Lib.hid e3
        have hp7 := pow_le hk7
        have hle : 5 * segO s + 5 ≤ 640 := by omega
        have hsz : 5 * segO s + 5 ≤ 7 * 2 ^ k := by omega
        rw [e1] at HM ⊢
        have hne : ((segG s : Int) != (k : Int)) = false := by rw [hseg]; simp
        have Hseg := Lib.hid hseg
        have hsl : Hid (2 ^ k ≤ s + 1 ∧ s + 1 < 2 * 2 ^ k) := by rw [← hseg]; exact (seg_facts (by omega)).2
        obtain ⟨z, hz⟩ : ∃ z, 7 * 2 ^ k = z := ⟨_, rfl⟩
        rw [hz] at hsz
        have Hz := Lib.hid hz
        clear e1 e2 e3 hseg hp7 hz
        generalize hso : segO s = m at *
        have Hso := Lib.hid hso
        clear hso
        go_wp2_with fail
        refine (segment_yes s _ (by omega)).mono ?_; rintro e w' ⟨rfl, n, rfl⟩
        rw [Hso.out]
        replace HM := HM.out.ext (below_drewN (Below.refl _ _) n)
        go_wp2
        go_loopw [7, 43] (fun c i wf => ∃ f : Nat, f ≤ 5 ∧ i = .int .i64 f ∧ c = .int .i64 (5 * (m : Int) + (f : Int)) ∧ Marks w wf S (fstF (5 * m + f))) (fun _ i _ => 5 - (intOf i).toNat)
        case atStart => exact ⟨0, by omega, rfl, by simp, HM⟩
        case round =>
          obtain ⟨f, hf5, rfl, rfl, HM'⟩ := hrel
          clear HM
          have HM := Lib.hid HM'
          clear HM'
          by_cases hf : f < 5
          · go_wp2_with fail
            refine (word_yes sg s f _ (by omega) (by omega)).mono ?_; rintro e wx ⟨rfl, hbx⟩
            rw [Hso.out]
            replace HM := HM.out.ext hbx
            have hc := HM.cell (5 * m + f) (by omega)
            have hfz := HM.free (5 * m + f)
            have hS := HM.lt
            rw [show fstF (5 * m + f) (5 * m + f) = 0 from if_neg (by omega)] at hc
            replace HM := Lib.hid HM
            clear hbx
            have B1 : Hid (∀ w, Calls Try.prog 33 #[.int .i64 k] w fun e w' => e = .returned (.int .i64 (z : Nat)) ∧ w = w') := fun w => (size_yes k w hk7).mono (by rw [Hz.out]; exact fun _ _ h => h)
            have hidx : Hid ((5 * (m : Int) + (f : Int)).toNat = 5 * m + f) := by show _ = _; omega
            have hd1 : decide (5 * (m : Int) + (f : Int) < 0) = false := by simp; omega
            have hd2 : decide ((z : Int) ≤ 5 * (m : Int) + (f : Int)) = false := by simp; omega
            have hd3 : decide ((2000 : Int) ≤ 5 * (m : Int) + (f : Int)) = false := by simp; omega
            go_wp2
            go_quiet ((go_at_call 33; exact quiet_eq (B1.out _)))
            go_wp2
            go_roundw
            case rel => exact ⟨f + 1, by omega, by go_num, by go_num, (((HM.out.ext ((Below.refl _ _).alloc (Nat.le_refl _) _)).ext (below_drewN (Below.refl _ _) nq)).set (5 * m + f) 1).congr (fun x => fst_succ _ x)⟩
            case measure => simp [intOf]; omega
          · obtain rfl : f = 5 := by omega
            go_wp2_with fail
            refine (path_yes s _ (by omega)).mono ?_; rintro e wx ⟨v, rfl, hown, hbx⟩
            rw [Hseg.out] at hown
            obtain ⟨q, cq, rfl, hq1, hq2⟩ := hown.form (by omega)
            have hc0 := hown.cellAt 0 (by omega)
            rw [show (ints (pathOf s))[0]? = some (.int .i64 (s + 1 : Nat)) from by simp [ints, pathOf, pathF]] at hc0
            replace HM := Lib.hid (HM.out.ext hbx)
            clear hown hbx
            go_wp2_with fail
            refine (slot_yes k (s + 1) _ hk7 (hsl.out.1) (hsl.out.2)).mono ?_; rintro e w' ⟨rfl, rfl⟩
            rw [show s + 1 - 1 = s from by omega]
            go_wp2
            go_roundw
            case rel => exact ⟨s + 1, by omega, by go_num, by rw [Hn.out]; go_num, by rw [Hn.out]; exact HM.out⟩
            case measure => simp [intOf]; omega
      · have Hc := Lib.hid (cnt_out (by omega) hseg)
        have hne : ((segG s : Int) != (k : Int)) = true := by rw [bne_iff_ne]; omega
        clear hseg
        generalize cntF k s = c at *
        go_wp2_with fail
        refine (segment_yes s _ (by omega)).mono ?_; rintro e w' ⟨rfl, n, rfl⟩
        go_wp2
        go_roundw
        case rel => exact ⟨s + 1, by omega, by go_num, by rw [Hc.out], by rw [Hc.out]; exact HM.out.ext (below_drewN (Below.refl _ _) _)⟩
        case measure => simp [intOf]; omega
    · have hp := pow_le hk7
      have hcnt : cntF k s = 2 ^ k := by rw [show s = 255 by omega]; exact cnt_end hk7
      rw [hcnt] at HM ⊢
      have hpi := pow_cast k
      obtain ⟨p, hp2⟩ : ∃ p, 2 ^ k = p := ⟨_, rfl⟩
      rw [hp2] at HM hp hpi ⊢
      have Hp := Lib.hid hp2
      replace HM := HM.out.congr (fun x => fst_snd _ x)
      clear hcnt hp2 hpi
      go_wp2
      go_loopw [7, 18] (fun c i wr => ∃ n : Nat, n + 1 ≤ 2 * p ∧ i = .int .i64 ((n : Int) + 1) ∧ c = .int .i64 (5 * (p : Int) + (n : Int)) ∧ Marks w wr S (sndF (5 * p) n)) (fun _ i _ => 2 * p - (intOf i).toNat)
      case atStart => exact ⟨0, by omega, by simp, by simp, HM⟩
      case round =>
        obtain ⟨n, hn, rfl, rfl, HM'⟩ := hrel
        clear HM hlt
        have HM := Lib.hid HM'
        clear HM'
        by_cases hlt : n + 1 < 2 * p
        · go_wp2_with fail
          refine (pow_any k _ (by omega)).mono ?_; rintro e w' ⟨rfl, rfl⟩
          rw [Hp.out]
          go_wp2_with fail
          refine (counter_yes sg k (n + 1) _ hk7 (by omega) (by rw [Hp.out]; exact hlt)).mono ?_; rintro e wx ⟨rfl, hbx⟩
          rw [Hp.out]
          replace HM := HM.out.ext hbx
          have hc := HM.cell (5 * p + (n + 1)) (by omega)
          have hfz := HM.free (5 * p + (n + 1))
          have hS := HM.lt
          rw [show sndF (5 * p) n (5 * p + (n + 1)) = 0 from if_neg (by omega)] at hc
          replace HM := Lib.hid HM
          clear hbx
          have B1 : Hid (∀ w, Calls Try.prog 33 #[.int .i64 k] w fun e w' => e = .returned (.int .i64 (7 * p : Nat)) ∧ w = w') := fun w => (size_yes k w hk7).mono (by rw [Hp.out]; exact fun _ _ h => h)
          have hd1 : decide (5 * (p : Int) + ((n : Int) + 1) < 0) = false := by simp; omega
          have hd2 : decide (7 * (p : Int) ≤ 5 * (p : Int) + ((n : Int) + 1)) = false := by simp; omega
          have hd3 : decide ((2000 : Int) ≤ 5 * (p : Int) + ((n : Int) + 1)) = false := by simp; omega
          go_wp2
          go_quiet ((go_at_call 33; exact quiet_eq (B1.out _)))
          go_wp2
          go_roundw
          case rel => exact ⟨n + 1, by omega, by go_num, by go_num, (((HM.out.ext ((Below.refl _ _).alloc (Nat.le_refl _) _)).ext (below_drewN (Below.refl _ _) nq)).set (5 * p + (n + 1)) 1).congr (fun x => snd_succ _ _ x)⟩
          case measure => simp [intOf]; omega
        · have hn2 : (n : Int) + 1 = 2 * (p : Int) := by omega
          have hl : ¬ ((n : Int) + 1 < 2 * (p : Int)) := by omega
          have He : Hid ((5 * (p : Int) + (n : Int) == 7 * (p : Int) - 1) = true) := by show _ = _; rw [beq_iff_eq]; omega
          clear hn2
          go_wp2_with fail
          refine (pow_any k _ (by omega)).mono ?_; rintro e w' ⟨rfl, rfl⟩
          rw [Hp.out]
          go_wp2_with fail
          refine (size_yes k _ hk7).mono ?_; rintro e w' ⟨rfl, rfl⟩
          rw [Hp.out]
          go_wp2
          go_ret
          exact ⟨by simp [He.out], HM.out.below⟩
end Go.Proofs.Ytohijcgbfcahhaa
