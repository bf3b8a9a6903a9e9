/- The arena's Read at a word that there is (layer 3). -/
import Derived.Test.YtnfpkadepomjjaaBaseArD
set_option linter.all false
namespace Go.Proofs.Ytnfpkadepomjjaa
open Go.RowKit

set_option maxHeartbeats 1600000 in
theorem read_block (p h i x : Nat) (A : Ar) (b : Blk) (w : World) {R : Assn} (H : Sat w (arAt p A * R)) (hh : h < TW) (h0 : h ≠ 0) (hf : A.find h = some b) (hx : b.ws[i]? = some x) :
    Calls Try.prog 72 #[.pointer (some ⟨p, 0, none⟩), .agg #[.int .u64 h, .int .i64 i]] w fun e w' => e = .returned (.tuple #[.int .u64 x, .int .i64 0]) ∧ Sat w' (arAt p (A.tick fun t => { t with reads := t.reads + 1 }) * R) ∧ Kept w w' := by
  have hil : i < b.ws.length := by
    rcases Nat.lt_or_ge i b.ws.length with h1 | h1
    · exact h1
    · rw [List.getElem?_eq_none h1] at hx; cases hx
  have H0 := H.alloc (.cells #[.int .u64 h, .int .i64 i] 96)
  obtain ⟨ps, pb, l1, l2, g, c, cur, hi, hl, hv, h4, h5, h6, h7, hsee, H1⟩ := ar_block H0.swap (Ar.find_mem hf).1
  have hbh := (Ar.find_mem hf).2
  have Hat := Lib.hid (at_block p h i g _ c A b _ hsee hh h0 hf hv hil)
  have hgp : g ≠ p := H1.ne.symm
  have hB : Hid (∀ w1, Below (w.alloc (.cells #[.int .u64 h, .int .i64 i] 96)).heap.size (w.alloc (.cells #[.int .u64 h, .int .i64 i] 96)) w1 → w1.cell? ⟨w.heap.size, 1, none⟩ = some (.int .i64 i) ∧ w1.cell? ⟨p, 18, none⟩ = some (.int .i64 (wr64 A.t.reads)) ∧ w1.frozen? ⟨p, 18, none⟩ = false ∧ w1.cell? ⟨g, i, none⟩ = some (.int .u64 x) ∧
      Sat (w1.setCell ⟨p, 18, none⟩ (.int .i64 (wrap64 (wr64 A.t.reads + 1)))) (arAt p (A.tick fun t => { t with reads := t.reads + 1 }) * R) ∧ Kept w w1) := by
    intro w1 hb1
    have H2 := H1.below hb1
    refine ⟨?_, H2.cell 18, H2.free 18, row_at H2.swap h7 hx, ?_, ((Kept.refl w).alloc _).below hb1⟩
    · exact (hb1.cell (p := ⟨w.heap.size, 1, none⟩) (by simp)).trans (by rw [World.cell?_alloc_at _ _ _ _ rfl]; rfl)
    · have H3 := H2.set 18 (.int .i64 (wr64 (A.t.reads + 1)))
      rw [wr64_succ]
      exact (ar_block_shut (A := A.tick _) (hi.tick _) hl hv h4 h5 h6 h7 H3).swap.right
  clear H0 H1 H hsee hl hv h4 h5 h6 h7 hf hx hi hbh
  go_enter Try.func72, Try.ntmps72
  go_wp2_with fail
  refine Hat.out.mono ?_; rintro e w1 ⟨rfl, hb1⟩
  obtain ⟨c1, c2, c3, c4, hS, hK⟩ := hB.out w1 hb1
  have HS := Lib.hid hS
  clear hS hb1
  go_wp2
  go_ret2
  exact ⟨rfl, HS.out, by repeat first | exact hK | refine Kept.setCell ?_ _ _⟩

set_option maxHeartbeats 1600000 in
theorem read_fixed (p i x : Nat) (A : Ar) (w : World) {R : Assn} (H : Sat w (arAt p A * R)) (hi9 : i < 9) (hx : A.fixed i = x) :
    Calls Try.prog 72 #[.pointer (some ⟨p, 0, none⟩), .agg #[.int .u64 0, .int .i64 i]] w fun e w' => e = .returned (.tuple #[.int .u64 x, .int .i64 0]) ∧ Sat w' (arAt p (A.tick fun t => { t with reads := t.reads + 1 }) * R) ∧ Kept w w' := by
  have H0 := H.alloc (.cells #[.int .u64 0, .int .i64 i] 96)
  obtain ⟨ps, pb, hi, H1⟩ := arAt_open H0.swap
  have Hat := Lib.hid (at_fixed p i _ H1.lt hi9)
  have hB : Hid (∀ w1, Below (w.alloc (.cells #[.int .u64 0, .int .i64 i] 96)).heap.size (w.alloc (.cells #[.int .u64 0, .int .i64 i] 96)) w1 → w1.cell? ⟨w.heap.size, 1, none⟩ = some (.int .i64 i) ∧ w1.cell? ⟨p, 18, none⟩ = some (.int .i64 (wr64 A.t.reads)) ∧ w1.frozen? ⟨p, 18, none⟩ = false ∧ w1.cell? ⟨p, 5 + i, none⟩ = some (.int .u64 x) ∧
      Sat (w1.setCell ⟨p, 18, none⟩ (.int .i64 (wrap64 (wr64 A.t.reads + 1)))) (arAt p (A.tick fun t => { t with reads := t.reads + 1 }) * R) ∧ Kept w w1) := by
    intro w1 hb1
    have H2 := H1.below hb1
    refine ⟨?_, H2.cell 18, H2.free 18, (H2.cell (5 + i)).trans (by rw [fixed_cell _ _ _ hi9, hx]), ?_, ((Kept.refl w).alloc _).below hb1⟩
    · exact (hb1.cell (p := ⟨w.heap.size, 1, none⟩) (by simp)).trans (by rw [World.cell?_alloc_at _ _ _ _ rfl]; rfl)
    · have H3 := H2.set 18 (.int .i64 (wr64 (A.t.reads + 1)))
      rw [wr64_succ]
      exact (arAt_shut (A := A.tick _) (hi.tick _) H3).swap.right
  clear H0 H1 H hx hi
  go_enter Try.func72, Try.ntmps72
  go_wp2_with fail
  refine Hat.out.mono ?_; rintro e w1 ⟨rfl, hb1⟩
  obtain ⟨c1, c2, c3, c4, hS, hK⟩ := hB.out w1 hb1
  have HS := Lib.hid hS
  clear hS hb1
  go_wp2
  go_ret2
  exact ⟨rfl, HS.out, by repeat first | exact hK | refine Kept.setCell ?_ _ _⟩
end Go.Proofs.Ytnfpkadepomjjaa
