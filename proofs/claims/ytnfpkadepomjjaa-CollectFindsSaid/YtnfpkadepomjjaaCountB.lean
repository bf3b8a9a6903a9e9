/- Package count: made, stepped, done. -/
import Derived.Test.YtnfpkadepomjjaaCountA
set_option linter.all false
namespace Go.Proofs.Ytnfpkadepomjjaa
open Go.RowKit

theorem count_step_add (c p x : Nat) (A : Ar) (b : Blk) (st : Cnt) (w : World) {R : Assn} (H : Sat w (cntAt c p st * (arAt p A * R))) (hs : st.s ≤ 254) (hfl : st.first < st.last) (hl : st.last ≤ segG st.s + 1)
    (hsg : st.sg < TW) (h0 : st.sg ≠ 0) (hf : A.find st.sg = some b) (hx : b.ws[5 * 2 ^ segG st.s + (st.s + 1) / 2 ^ st.first]? = some x) :
    Calls Try.prog 23 #[.pointer (some ⟨c, 0, none⟩)] w fun e w' => e = .returned (.tuple #[]) ∧
      (Sat w' (cntAt c p { st with first := st.first + 1 } * (arAt p ((A.set st.sg (5 * 2 ^ segG st.s + (st.s + 1) / 2 ^ st.first) (addW x st.by')).tick fun t => { t with adds := t.adds + 1 }) * R)) ∧ Kept w w') := by
  have Hadd := count_add c p x A b st w H hs hfl hl hsg h0 hf hx
  obtain ⟨pv, H1⟩ := H.ex_mul
  have H2 := H1.cast (Assn.mul_assoc _ _ _)
  have hc := H2.cell 0
  simp [cntCells, cntGear, cntNext, hfl] at hc
  have HG := Lib.hid (gearStep_count_add c 0 c w hc Hadd)
  clear Hadd H H1 H2 hc hx hf
  go_enter Try.func23, Try.ntmps23
  go_wp2_with fail
  refine HG.out.mono ?_; rintro e w1 ⟨rfl, hq⟩
  have HQ := Lib.hid hq
  clear hq
  go_wp2
  go_end0
  exact ⟨rfl, HQ.out⟩

theorem count_step_end (c p : Nat) (st : Cnt) (w : World) {R : Assn} (H : Sat w (cntAt c p st * R)) (hfl : st.last ≤ st.first) :
    Calls Try.prog 23 #[.pointer (some ⟨c, 0, none⟩)] w fun e w' => e = .returned (.tuple #[]) ∧ w = w' := by
  obtain ⟨pv, H1⟩ := H.ex_mul
  have H2 := H1.cast (Assn.mul_assoc _ _ _)
  have hc := H2.cell 0
  simp [cntCells, cntGear, cntNext, Nat.not_lt.mpr hfl] at hc
  have HG := Lib.hid (gearStep_none c 0 w hc)
  clear H H1 H2
  go_enter Try.func23, Try.ntmps23
  go_wp2_with fail
  refine HG.out.mono ?_; rintro e w1 ⟨rfl, rfl⟩
  go_wp2
  go_end0
  exact ⟨rfl, rfl⟩

def isDone (st : Cnt) : Bool := decide (st.last ≤ st.first)
theorem count_done (c p : Nat) (st : Cnt) (w : World) {R : Assn} (H : Sat w (cntAt c p st * R)) :
    Calls Try.prog 18 #[.pointer (some ⟨c, 0, none⟩)] w fun e w' => e = .returned (.bool (isDone st)) ∧ w = w' := by
  obtain ⟨pv, H1⟩ := H.ex_mul
  have H2 := H1.cast (Assn.mul_assoc _ _ _)
  have hc := H2.cell 0
  simp [cntCells, cntGear, cntNext] at hc
  have HG : Calls Try.prog 99 #[.pointer (some ⟨c, 0, none⟩)] w fun e w' => e = .returned (.bool (isDone st)) ∧ w = w' := by
    by_cases h : st.first < st.last
    · simp [h] at hc
      have := gearDone_no c 0 _ _ _ w hc
      simpa [isDone, Nat.not_le.mpr h] using this
    · simp [h] at hc
      have := gearDone_yes c 0 w hc
      simpa [isDone, Nat.not_lt.mp h] using this
  have HG := Lib.hid HG
  clear H H1 H2 hc
  generalize isDone st = d at *
  go_enter Try.func18, Try.ntmps18
  go_wp2_with fail
  refine HG.out.mono ?_; rintro e w1 ⟨rfl, rfl⟩
  go_wp2
  go_ret
  exact ⟨rfl, rfl⟩

def cntNew (sg s : Nat) (first last : Int) (by' : Nat) : Cnt := ⟨sg, s, (min (max first 0) (segG s + 1)).toNat, (max (min last (segG s + 1)) 0).toNat, by'⟩

theorem count_new (p sg s : Nat) (first last : Int) (by' : Nat) (w : World) {R : Assn} (H : Sat w R) (hs : s ≤ 254) :
    Calls Try.prog 101 #[.pointer (some ⟨p, 0, none⟩), .agg #[.int .u64 sg, .int .i64 s], .int .i64 first, .int .i64 last, .int .u64 by'] w fun e w' => ∃ c, e = .returned (.pointer (some ⟨c, 0, none⟩)) ∧
      Sat w' (cntAt c p (cntNew sg s first last by') * R) ∧ Kept w w' := by
  obtain ⟨f1, f2, f3⟩ := seg_facts hs
  go_enter Try.func101, Try.ntmps101
  go_wp2_with fail
  refine (path_yes s _ hs).mono ?_; rintro e w1 ⟨v, rfl, ho, hb⟩
  have x0 := (Ext.of_below hb).cell (show World.cell? (World.alloc w _) ⟨w.heap.size, 0, none⟩ = some (.int .u64 sg) from (by go_simp))
  have x1 := (Ext.of_below hb).cell (show World.cell? (World.alloc w _) ⟨w.heap.size, 1, none⟩ = some (.int .i64 s) from (by go_simp))
  have HS := rowAt_made (Sat.alloc (w := w) H (.cells #[.int .u64 sg, .int .i64 s] 44)) hb ho
  have HK := ((Kept.refl w).alloc (.cells #[.int .u64 sg, .int .i64 s] 44)).below hb
  have hlen : (ints (pathOf s)).length = segG s + 1 := by simp [ints, pathOf, pathF]
  have HKh := Lib.hid HK
  clear ho hb HK
  have hop := rowAt_open HS
  rw [hlen] at hop
  rcases hop with ⟨_, h3, _⟩ | ⟨g, cap, cur, rfl, h4, h5, h6, h7, HS2⟩
  · rw [h3] at hlen; simp at hlen
  have HT : ∀ (n : Nat) (f l : Int), f = (cntNew sg s first last by').first → l = (cntNew sg s first last by').last → Calls Try.prog 167 #[.pointer (some ⟨w1.heap.size, 0, none⟩)] ((w1.drewN n).alloc (.cells #[.nilFunc, .pointer (some ⟨p, 0, none⟩), .int .u64 sg, .int .i64 s, .int .i64 (segG s), .slice (some ⟨g, 0, none⟩) (segG s + 1) cap, .int .i64 f, .int .i64 l, .int .u64 by'] 175)) fun e w' => e = .returned (.tuple #[]) ∧ Sat w' (cntAt w1.heap.size p (cntNew sg s first last by') * R) ∧ Kept w w' := by
    rintro n f l rfl rfl
    have A1 := Sat.alloc (HS2.draws n) (.cells (cntCells .nilFunc p (cntNew sg s first last by') (.slice (some ⟨g, 0, none⟩) (segG s + 1) cap)) 175)
    refine (count_on w1.heap.size (cntNew sg s first last by').first (cntNew sg s first last by').last _ _ (by simp [cntNew]; omega) (by simp [cntNew]; omega) (A1.cell 0) (A1.free 0) (A1.cell 6) (A1.cell 7)).mono ?_
    rintro e w2 ⟨rfl, m, rfl⟩
    refine ⟨rfl, ?_, ((((HKh.out).draws n).alloc _).draws m).setCell _ _⟩
    have A2 := (A1.draws m).set 0 (cntNext w1.heap.size (cntNew sg s first last by').first (cntNew sg s first last by').last)
    rw [← hlen] at h4 h7
    have A3 := rowAt_shut (xs := ints (pathOf s)) h4 h5 h6 h7 A2.swap
    rw [hlen] at A3
    refine Sat.mk_ex_mul (.slice (some ⟨g, 0, none⟩) (segG s + 1) cap) ?_
    have A4 := A3.cast (Q := own w.heap.size (.cells #[.int .u64 sg, .int .i64 s] 44 (0, 0)) * (own w1.heap.size (.cells (cntCells (cntGear w1.heap.size (cntNew sg s first last by')) p (cntNew sg s first last by') (.slice (some ⟨g, 0, none⟩) (segG s + 1) cap)) 175 (0, 0)) * rowAt 3 (.slice (some ⟨g, 0, none⟩) (segG s + 1) cap) (ints (pathOf s)) * R)) (by simp only [cntCells, cntGear]; simp; ac_rfl)
    exact A4.right
  have HT := Lib.hid HT
  clear HS2 h4 h5 h6 h7 hlen
  go_wp2_with fail
  refine (segment_yes s _ hs).mono ?_; rintro e w2 ⟨rfl, n, rfl⟩
  go_wp2_with fail
  all_goals refine (HT.out n _ _ ?_ ?_).mono ?_
  all_goals first
    | (simp [cntNew]; omega)
    | (rintro e w3 ⟨rfl, hs3, hk3⟩
       have HS3 := Lib.hid hs3
       have HK3 := Lib.hid hk3
       clear hs3 hk3
       go_wp2
       go_ret
       exact ⟨_, rfl, HS3.out, HK3.out⟩)

theorem count_enter (p sg s : Nat) (w : World) {R : Assn} (H : Sat w R) (hs : s ≤ 254) :
    Calls Try.prog 22 #[.pointer (some ⟨p, 0, none⟩), .agg #[.int .u64 sg, .int .i64 s]] w fun e w' => ∃ c, e = .returned (.pointer (some ⟨c, 0, none⟩)) ∧
      Sat w' (cntAt c p ⟨sg, s, 0, segG s + 1, 1⟩ * R) ∧ Kept w w' := by
  obtain ⟨f1, f2, f3⟩ := seg_facts hs
  have HN := Lib.hid (count_new p sg s 0 255 1 _ (H.alloc (.cells #[.int .u64 sg, .int .i64 s] 44)) hs)
  have he : cntNew sg s 0 255 1 = ⟨sg, s, 0, segG s + 1, 1⟩ := by
    simp only [cntNew, Cnt.mk.injEq]
    refine ⟨trivial, trivial, ?_, ?_, trivial⟩ <;> omega
  go_enter Try.func22, Try.ntmps22
  go_wp2_with fail
  refine HN.out.mono ?_; rintro e w1 ⟨c, rfl, hs1, hk⟩
  have HS := Lib.hid hs1
  have HK := Lib.hid hk
  clear hs1 hk
  go_wp2
  go_ret
  refine ⟨c, rfl, ?_, (((Kept.refl w).alloc _).trans HK.out)⟩
  have h1 := HS.out
  rw [he] at h1
  exact h1.swap.right

theorem count_exit (p sg s : Nat) (first last : Int) (w : World) {R : Assn} (H : Sat w R) (hs : s ≤ 254) :
    Calls Try.prog 20 #[.pointer (some ⟨p, 0, none⟩), .agg #[.int .u64 sg, .int .i64 s], .int .i64 first, .int .i64 last] w fun e w' => ∃ c, e = .returned (.pointer (some ⟨c, 0, none⟩)) ∧
      Sat w' (cntAt c p (cntNew sg s first last 18446744073709551615) * R) ∧ Kept w w' := by
  have HN := Lib.hid (count_new p sg s first last 18446744073709551615 _ (H.alloc (.cells #[.int .u64 sg, .int .i64 s] 44)) hs)
  go_enter Try.func20, Try.ntmps20
  go_wp2_with fail
  refine HN.out.mono ?_; rintro e w1 ⟨c, rfl, hs1, hk⟩
  have HS := Lib.hid hs1
  have HK := Lib.hid hk
  clear hs1 hk
  go_wp2
  go_ret
  exact ⟨c, rfl, HS.out.swap.right, (((Kept.refl w).alloc _).trans HK.out)⟩
end Go.Proofs.Ytnfpkadepomjjaa
