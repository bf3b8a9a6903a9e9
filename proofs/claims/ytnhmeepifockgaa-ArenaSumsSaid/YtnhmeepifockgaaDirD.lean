/- Contracts of the document's Segment, Word, Path (layer 10). -/
import Derived.Deep.AppendLies
import Derived.Test.YtnhmeepifockgaaDirC
set_option linter.all false
namespace Go.Proofs.Ytnhmeepifockgaa
open Go.RowKit

theorem ref_segment (s : Nat) (w : World) (h : s ≤ 254) :
    Calls Try.prog 105 #[.int .i64 s] w fun e w' => e = .returned (.tuple #[.int .i64 (segG s), .int .i64 (segO s)]) ∧ w = w' := by
  obtain ⟨f1, f2, f3⟩ := seg_facts h
  have Hz : Hid ((s : Int) + 1 - 2 ^ segG s = (segO s : Int)) := by
    show _ = _
    have := pow_cast (segG s); unfold segO; omega
  go_enter Try.func105, Try.ntmps105
  go_wp2
  go_loop [0, 4] (fun a i => ∃ k : Nat, k ≤ segG s ∧ i = .int .i64 k ∧ a = .int .i64 ((s : Int) + 1 - 2 ^ k)) (fun _ i => segG s - (intOf i).toNat)
  case atStart => exact ⟨0, Nat.zero_le _, rfl, by simp⟩
  case round =>
    obtain ⟨k, hk, rfl, rfl⟩ := hrel
    obtain ⟨p1, p2⟩ := pow_int (k := k) (by omega)
    have Hc := Lib.hid (pow_cast k)
    by_cases hlt : k < segG s
    · have hm : 2 * (2 : Int) ^ k ≤ (s : Int) + 1 := by rw [pow_cast]; have := seg_more hlt; omega
      clear f2 f3
      go_wp2_with fail
      refine (pow_any k _ (by omega)).mono ?_; rintro e w' ⟨rfl, rfl⟩
      rw [← Hc.out]
      go_wp2_with fail
      refine (pow_any k _ (by omega)).mono ?_; rintro e w' ⟨rfl, rfl⟩
      rw [← Hc.out]
      go_wp2
      go_round
      case rel => exact ⟨k + 1, by omega, by go_num, by rw [Int.pow_succ]; go_num⟩
      case measure => simp [intOf]; omega
    · have hm : (s : Int) + 1 < 2 * (2 : Int) ^ k := seg_less h (by omega)
      obtain rfl : k = segG s := by omega
      clear f2 f3
      go_wp2_with fail
      refine (pow_any (segG s) _ (by omega)).mono ?_; rintro e w' ⟨rfl, rfl⟩
      rw [← Hc.out]
      go_wp2
      go_ret2
      exact ⟨by rw [← Hz.out]; rfl, rfl⟩

theorem ref_word (sg s f : Nat) (w : World) (h : s ≤ 254) (hf : f ≤ 4) :
    Calls Try.prog 49 #[.agg #[.int .u64 sg, .int .i64 s], .int .i64 f] w fun e w' => e = .returned (.agg #[.int .u64 sg, .int .i64 (5 * segO s + f : Nat)]) ∧ Below w.heap.size w w' := by
  have ho : segO s ≤ 255 := Nat.le_trans (Nat.sub_le _ _) (by omega)
  go_enter Try.func49, Try.ntmps49
  go_wp2_with fail
  refine (ref_segment s _ h).mono ?_; rintro e w' ⟨rfl, rfl⟩
  go_wp2
  exact bodyPost_ret (v := .agg #[.int .u64 sg, .int .i64 (5 * segO s + f)]) (by simp [results, Try.results49, go_sem]) rfl ⟨by simp, (by repeat first | exact Below.refl _ _ | (refine Below.alloc ?_ (by simp) _) | (refine Below.setCell ?_ (by simp) _) | refine below_drewN ?_ _)⟩

set_option maxHeartbeats 400000 in
set_option maxRecDepth 20000 in
theorem ref_path (s : Nat) (w : World) (h : s ≤ 254) :
    Calls Try.prog 134 #[.int .i64 s] w fun e w' => ∃ v, e = .returned v ∧ w'.ownsRow w.heap.size 3 1 v (segG s + 1) (ints (pathOf s)) ∧ Below w.heap.size w w' := by
  obtain ⟨i0, hi, hz0, hz1, hz2⟩ := info_parts info_int
  obtain ⟨f1, f2, f3⟩ := seg_facts h
  obtain ⟨p1, p2⟩ := pow_int (k := segG s) (by omega)
  have Hc := Lib.hid (pow_cast (segG s))
  have Ho : Hid ((2 : Int) ^ segG s + (segO s : Int) = (s : Int) + 1) := by
    show _ = _
    have := pow_cast (segG s); unfold segO; omega
  have ho : segO s ≤ 255 := Nat.le_trans (Nat.sub_le _ _) (by omega)
  clear f2 f3
  go_enter Try.func134, Try.ntmps134
  go_wp2_with fail
  refine (ref_segment s _ h).mono ?_; rintro e w' ⟨rfl, rfl⟩
  go_wp2_with fail
  refine (pow_any (segG s) _ (by omega)).mono ?_; rintro e w' ⟨rfl, rfl⟩
  rw [← Hc.out]
  go_wp2
  rw [Ho.out]
  go_loopw [5] (fun v wr => ∃ j : Nat, j ≤ segG s ∧ wr.ownsRow w.heap.size 3 1 v (j + 1) (ints (pathF s (j + 1))) ∧ Below w.heap.size w wr)
    (fun v _ => 300 - lenOf v)
  case atStart =>
    refine ⟨0, Nat.zero_le _, ?_, (Below.refl _ _).alloc (Nat.le_refl _) _⟩
    have := World.ownsRow_lit (base := w.heap.size) (e := 3) (size := 1) w #[.int .i64 ((s : Int) + 1)] 1 (Nat.le_refl _) (by unfold maxLen; omega) rfl
    simpa [ints, pathF] using this
  case round =>
    obtain ⟨j, hj, hown, hbel⟩ := hrel
    obtain ⟨g, cap, rfl, hg1, hg2⟩ := hown.form (by omega)
    have hs := Lib.hid (pathF_succ s (j + 1))
    have hh := Lib.hid (path_half s j)
    have hmore : Hid (1 < (s + 1) / 2 ^ j → j < segG s) := path_more
    have hlast : Hid (¬ 1 < (s + 1) / 2 ^ j → j = segG s) := path_last hj
    have hle : (s + 1) / 2 ^ j ≤ 255 := Nat.le_trans (Nat.div_le_self _ _) (by omega)
    have hcell : wr.cell? ⟨g, j, none⟩ = some (.int .i64 ((s + 1) / 2 ^ j : Nat)) := by
      rw [hown.cellAt j (by omega)]; simp [ints, pathF]
    generalize (s + 1) / 2 ^ j = m at *
    by_cases hm : 1 < m
    · have hk1 := hmore.out hm
      go_wp2_with (at_builtin; refine wpList_append_own _ rfl _ _ 89 rfl w.heap.size 3 i0 (.int .i64 0) 1 8 Try.underlying89 hi hz0 hz1 hz2 rfl (by decide) _ _ _ rfl (hown.alloc _) ⟨wr.heap.size, 0, none⟩ 1 1 [.int .i64 (m / 2 : Nat)] rfl rfl ?c1 ?c2 ?c3 ?c4 ?c5 ?_)
      case c1 =>
        intro j u hj
        match j, hj with
        | 0, hj => simp at hj; subst hj; simp [Addr.add]
      case c2 => intro u hu; simp at hu; subst hu; rfl
      case c3 => unfold maxLen; omega
      case c4 => omega
      case c5 => have := hbel.size; simp; omega
      intro v' w1 hown' hgrow _
      have hb1 := ((hbel.alloc hbel.size (.cells #[.int .i64 (m / 2 : Nat)] 3)).grown hgrow (by have := hbel.size; simp; omega) (own_base hown))
      go_wp2
      go_roundw
      case rel => exact ⟨j + 1, by omega, by rw [hs.out, hh.out]; simpa [ints] using hown', hb1⟩
      case measure => obtain ⟨g', cap', rfl, _, _⟩ := hown'.form (by omega); simp [lenOf]; omega
    · obtain rfl : j = segG s := hlast.out hm
      go_wp2
      go_ret
      exact ⟨_, rfl, hown, hbel⟩
end Go.Proofs.Ytnhmeepifockgaa
