/- Package count (layer 12): a slot's path is counted, one node at a step. -/
import Derived.Deep.RegionHeld3
import Derived.Deep.DeepCutAuto
import Derived.StillTailTactics
import Derived.Deep.AppendLies
import Derived.Test.YtnfpkadepomjjaaArenaAdd
import Derived.Test.YtnfpkadepomjjaaGear
import Derived.Test.YtnfpkadepomjjaaDirC
set_option linter.all false
namespace Go.Proofs.Ytnfpkadepomjjaa
open Go.RowKit

/-- A count: of which slot (its segment's handle), from which node on to which, by how much. -/
structure Cnt where
  sg : Nat
  s : Nat
  first : Nat
  last : Nat
  by' : Nat
def cntNext (c f l : Nat) : Value := if f < l then .func (.func 208) #[.pointer (some ⟨c, 0, none⟩)] #[] else .nilFunc
def cntGear (c : Nat) (st : Cnt) : Value := cntNext c st.first st.last
def cntCells (gear : Value) (p : Nat) (st : Cnt) (pv : Value) : Array Value :=
  #[gear, .pointer (some ⟨p, 0, none⟩), .int .u64 st.sg, .int .i64 st.s, .int .i64 (segG st.s), pv, .int .i64 st.first, .int .i64 st.last, .int .u64 st.by']
def cntAt (c p : Nat) (st : Cnt) : Assn := Assn.ex fun pv : Value => own c (.cells (cntCells (cntGear c st) p st pv) 175 (0, 0)) * rowAt 3 pv (ints (pathOf st.s))

theorem count_on (c : Nat) (f l : Nat) (v0 : Value) (w : World) (hf : f ≤ 100) (hl : l ≤ 100) (h0 : w.cell? ⟨c, 0, none⟩ = some v0) (hz : w.frozen? ⟨c, 0, none⟩ = false) (h6 : w.cell? ⟨c, 6, none⟩ = some (.int .i64 f)) (h7 : w.cell? ⟨c, 7, none⟩ = some (.int .i64 l)) :
    Calls Try.prog 167 #[.pointer (some ⟨c, 0, none⟩)] w fun e w' => e = .returned (.tuple #[]) ∧ ∃ n, w' = (w.drewN n).setCell ⟨c, 0, none⟩ (cntNext c f l) := by
  have hmf : ∀ (fn : Fn) (first cap : Array Value) (w : World), (Instr.makeFunc fn first cap).run Try.prog w = .ok (.func fn first cap) w := fun _ _ _ _ => rfl
  by_cases h : f < l
  · go_enter Try.func167, Try.ntmps167
    go_wp2
    go_quiet (fail)
    go_wp2_with fail
    refine (gearTo c 0 _ _ _ (w.drewN nq) v0 h0 hz).mono ?_; rintro e w' ⟨rfl, rfl⟩
    go_wp2
    go_end0
    exact ⟨rfl, nq, by simp [cntNext, h]⟩
  · go_enter Try.func167, Try.ntmps167
    go_wp2
    go_quiet (fail)
    go_wp2_with fail
    refine (gearEnd c 0 (w.drewN nq) v0 h0 hz).mono ?_; rintro e w' ⟨rfl, rfl⟩
    go_wp2
    go_end0
    exact ⟨rfl, nq, by simp [cntNext, h]⟩

set_option maxHeartbeats 1600000 in
set_option maxRecDepth 100000 in
theorem count_add (c p x : Nat) (A : Ar) (b : Blk) (st : Cnt) (w : World) {R : Assn} (H : Sat w (cntAt c p st * (arAt p A * R))) (hs : st.s ≤ 254) (hfl : st.first < st.last) (hl : st.last ≤ segG st.s + 1)
    (hsg : st.sg < TW) (h0 : st.sg ≠ 0) (hf : A.find st.sg = some b) (hx : b.ws[5 * 2 ^ segG st.s + (st.s + 1) / 2 ^ st.first]? = some x) :
    Calls Try.prog 208 #[.pointer (some ⟨c, 0, none⟩)] w fun e w' => e = .returned (.tuple #[]) ∧
      (Sat w' (cntAt c p { st with first := st.first + 1 } * (arAt p ((A.set st.sg (5 * 2 ^ segG st.s + (st.s + 1) / 2 ^ st.first) (addW x st.by')).tick fun t => { t with adds := t.adds + 1 }) * R)) ∧ Kept w w') := by
  obtain ⟨pv, H1⟩ := H.ex_mul
  obtain ⟨f1, f2, f3⟩ := seg_facts hs
  have hnode : (st.s + 1) / 2 ^ st.first ≤ 255 := Nat.le_trans (Nat.div_le_self _ _) (by omega)
  have H2 : Sat w (rowAt 3 pv (ints (pathOf st.s)) * (own c (.cells (cntCells (cntGear c st) p st pv) 175 (0, 0)) * (arAt p A * R))) := H1.cast (by ac_rfl)
  have hlen : (ints (pathOf st.s)).length = segG st.s + 1 := by simp [ints, pathOf, pathF]
  rcases rowAt_open H2 with ⟨_, h3, _⟩ | ⟨g, cap, cur, rfl, h4, h5, h6, h7, H3⟩
  · rw [h3] at hlen; simp at hlen
  · have hnd : w.cell? ⟨g, st.first, none⟩ = some (.int .i64 ((st.s + 1) / 2 ^ st.first : Nat)) := by
      refine row_cell H3 (xs := ints (pathOf st.s)) h7 _ _ ?_
      have : st.first < segG st.s + 1 := by omega
      simp [ints, pathOf, pathF, this]
    have H4 := H3.swap
    have c1 := H4.cell 1
    have c2 := H4.cell 2
    have c4 := H4.cell 4
    have c5 := H4.cell 5
    have c6 := H4.cell 6
    have c7 := H4.cell 7
    have c8 := H4.cell 8
    simp [cntCells] at c1 c2 c4 c5 c6 c7 c8
    have hcl := H4.lt
    have hgl := H3.lt
    have hgc := H3.ne
    have HH := Lib.hid H4
    have Hrow := Lib.hid (And.intro h4 (And.intro h5 (And.intro h6 h7)))
    obtain ⟨P, hP⟩ : ∃ P, own c (.cells (cntCells (cntGear c st) p st (.slice (some ⟨g, 0, none⟩) (ints (pathOf st.s)).length cap)) 175 (0, 0)) * (own g (.cells cur 3 (0, 0)) * (arAt p A * R)) = P := ⟨_, rfl⟩
    rw [hP] at HH
    have HP := Lib.hid hP
    clear hP
    clear H H1 H2 H3 H4 h4 h5 h6 h7
    have hn1 : 1 ≤ (st.s + 1) / 2 ^ st.first := by
      have h1 : 2 ^ st.first ≤ 2 ^ segG st.s := Nat.pow_le_pow_right (by omega) (by omega)
      exact Nat.div_pos (by omega) (Nat.two_pow_pos _)
    have hn2 : (st.s + 1) / 2 ^ st.first < 2 * 2 ^ segG st.s := Nat.lt_of_le_of_lt (Nat.div_le_self _ _) f3
    rw [hlen] at c5
    generalize (st.s + 1) / 2 ^ st.first = nd at *
    have Hc := Lib.hid (fun w => counter_yes st.sg (segG st.s) nd w f1 hn1 hn2)
    have hi0 : (0 : Int) ≤ (st.first : Int) := by omega
    have hi1 : (st.first : Int) < (segG st.s : Int) + 1 := by omega
    have m1 := Nat.ne_of_gt hcl
    have m2 := Nat.ne_of_gt hgl
    clear f2 f3 hn1 hn2
    go_enter Try.func208, Try.ntmps208
    go_wp2
    go_cut [2] (fun s2 wc => ∃ y, s2 = .pointer (some ⟨y, 0, none⟩) ∧ Sat wc (own y (.cells #[.int .u64 st.sg, .int .i64 (5 * (2 : Int) ^ segG st.s + (nd : Int))] 96 (0, 0)) * P) ∧ Kept w wc)
    case first =>
      go_region_held3 (fun w' => w'.cell? ⟨c, 2, none⟩ = some (.int .u64 st.sg) ∧ w'.cell? ⟨c, 4, none⟩ = some (.int .i64 (segG st.s)) ∧ w'.cell? ⟨c, 5, none⟩ = some (.slice (some ⟨g, 0, none⟩) (segG st.s + 1) cap) ∧ w'.cell? ⟨c, 6, none⟩ = some (.int .i64 st.first) ∧ w'.cell? ⟨g, st.first, none⟩ = some (.int .i64 nd))
        (first | go_keep | ((repeat' apply And.intro) <;> first | go_keep | (go_split_ands; apply (Ext.of_below hb1).cell; assumption)))
        (first | (go_at_call 205; refine (Hc.out _).mono ?_; rintro e w1 ⟨rfl, hb1⟩; have q1 : c < w1.heap.size := (by have := hb1.size; simp at this; omega); have q2 : g < w1.heap.size := (by have := hb1.size; simp at this; omega); (try have x0 := (Ext.of_below hb1).cell (show World.cell? (World.alloc w.drew _) ⟨w.heap.size, 0, none⟩ = some (.int .u64 0) from (by go_simp))); (try have x1 := (Ext.of_below hb1).cell (show World.cell? (World.alloc w.drew _) ⟨w.heap.size, 1, none⟩ = some (.int .i64 0) from (by go_simp))); (try have y0 := (hb1.frozen (p := ⟨w.heap.size, 0, none⟩) (by simp)).trans (show World.frozen? (World.alloc w.drew _) ⟨w.heap.size, 0, none⟩ = false from (by go_simp))); (try have y1 := (hb1.frozen (p := ⟨w.heap.size, 1, none⟩) (by simp)).trans (show World.frozen? (World.alloc w.drew _) ⟨w.heap.size, 1, none⟩ = false from (by go_simp))); have kc2 := (Ext.of_below hb1).cell (show World.cell? _ _ = some _ from (by first | exact c2 | exact (World.cell?_alloc_past _ _ _ hcl).trans c2)); have kc4 := (Ext.of_below hb1).cell (show World.cell? _ _ = some _ from (by first | exact c4 | exact (World.cell?_alloc_past _ _ _ hcl).trans c4)); have kc5 := (Ext.of_below hb1).cell (show World.cell? _ _ = some _ from (by first | exact c5 | exact (World.cell?_alloc_past _ _ _ hcl).trans c5)); have kc6 := (Ext.of_below hb1).cell (show World.cell? _ _ = some _ from (by first | exact c6 | exact (World.cell?_alloc_past _ _ _ hcl).trans c6)); have khnd := (Ext.of_below hb1).cell (show World.cell? _ _ = some _ from (by first | exact hnd | exact (World.cell?_alloc_past _ _ _ hgl).trans hnd))))
      all_goals (go_wp2_with fail; go_meet)
      all_goals case rel => first
        | exact ⟨_, rfl, (Sat.below (w := w.drew) HH.out hb1).alloc _, ((Kept.refl w).drew.below hb1).alloc _⟩
        | exact ⟨_, rfl, ((Sat.below (w := w.drew.alloc _) (Sat.alloc (w := w.drew) HH.out (.cells #[.int .u64 0, .int .i64 0] 96)) hb1).set 0 (.int .u64 st.sg)).set 1 (.int .i64 (5 * (2 : Int) ^ segG st.s + (nd : Int))), (((Kept.refl w).drew.alloc _).below hb1).setCell _ _ |>.setCell _ _⟩
    case rest =>
      obtain ⟨y, rfl, HS, HK⟩ := hcut
      rw [← HP.out] at HS
      have hidx : ((5 * 2 ^ segG st.s + nd : Nat) : Int) = 5 * (2 : Int) ^ segG st.s + (nd : Int) := by simp
      have HS1 : Sat wc (arAt p A * (own y (.cells #[.int .u64 st.sg, .int .i64 (5 * (2 : Int) ^ segG st.s + (nd : Int))] 96 (0, 0)) * (own c (.cells (cntCells (cntGear c st) p st (.slice (some ⟨g, 0, none⟩) (ints (pathOf st.s)).length cap)) 175 (0, 0)) * (own g (.cells cur 3 (0, 0)) * R)))) := HS.cast (by ac_rfl)
      have Hadd := add_block p st.sg (5 * 2 ^ segG st.s + nd) x st.by' A b wc.drew HS1 hsg h0 hf hx
      rw [hidx] at Hadd
      have HA := Lib.hid Hadd
      have d1 := (HS.swap.cell 1)
      have d8 := (HS.swap.cell 8)
      have y0 := HS.cell 0
      have y1 := HS.cell 1
      simp [cntCells] at d1 d8 y0 y1
      have HKK := Lib.hid HK
      clear Hadd HS HS1 HH HP c1 c2 c4 c5 c6 c7 c8 hnd Hc hi0 hi1 m1 m2 hcl hgl hidx hx hnode HK
      go_wp2
      refine wp_region_still_tail 9 (by kernel_rfl) (by kernel_rfl) ?_
      change wpStill _ _ wc.drew _ _ _
      simp only [List.take_succ_cons, List.take_zero, List.drop_succ_cons, List.drop_zero]
      iterate 9 still_step
      refine wpStill_nil ?_
      change wpList _ _ _ _ _ wc.drew
      go_wp2_with fail
      refine HA.out.mono ?_; rintro e w2 ⟨rfl, HS2, HK2⟩
      have HS3 := Sat.cast HS2 (show _ = own c (.cells (cntCells (cntGear c st) p st (.slice (some ⟨g, 0, none⟩) (ints (pathOf st.s)).length cap)) 175 (0, 0)) * (own g (.cells cur 3 (0, 0)) * (arAt p ((A.set st.sg (5 * 2 ^ segG st.s + nd) (addW x st.by')).tick fun t => { t with adds := t.adds + 1 }) * (own y (.cells #[.int .u64 st.sg, .int .i64 (5 * (2 : Int) ^ segG st.s + (nd : Int))] 96 (0, 0)) * R))) by ac_rfl)
      have d6 := HS3.cell 6
      have z6 := HS3.free 6
      simp [cntCells] at d6
      have HS4 := HS3.set 6 (.int .i64 ((st.first : Int) + 1))
      have e0 := HS4.cell 0
      have e6 := HS4.cell 6
      have e7 := HS4.cell 7
      have e8 := HS4.free 0
      simp [cntCells] at e0 e6 e7
      have Hon := Lib.hid (count_on c (st.first + 1) st.last _ (w2.setCell ⟨c, 6, none⟩ (.int .i64 ((st.first : Int) + 1))) (by omega) (by omega) e0 e8 (by simpa using e6) e7)
      have H4 := Lib.hid HS4
      have HK3 := Lib.hid (HKK.out.drew.trans HK2)
      clear HS2 HS3 HS4 e0 e6 e7 e8 HA HKK HK2 d1 d8 y0 y1
      go_wp2_with fail
      refine Hon.out.mono ?_; rintro e w3 ⟨rfl, n, rfl⟩
      go_wp2
      go_end0
      refine ⟨rfl, ?_, ((HK3.out.setCell _ _).draws _).setCell _ _⟩
      obtain ⟨r4, r5, r6, r7⟩ := Hrow.out
      have F := (H4.out.draws n).set 0 (cntNext c (st.first + 1) st.last)
      have F2 := rowAt_shut (xs := ints (pathOf st.s)) r4 r5 r6 r7 F.swap
      refine Sat.mk_ex_mul (.slice (some ⟨g, 0, none⟩) (ints (pathOf st.s)).length cap) ?_
      have hC : ((cntCells (cntGear c st) p st (.slice (some ⟨g, 0, none⟩) (ints (pathOf st.s)).length cap)).setIfInBounds 6 (.int .i64 ((st.first : Int) + 1))).setIfInBounds 0 (cntNext c (st.first + 1) st.last) = cntCells (cntGear c { st with first := st.first + 1 }) p { st with first := st.first + 1 } (.slice (some ⟨g, 0, none⟩) (ints (pathOf st.s)).length cap) := by
        simp [cntCells, cntGear]
      have F3 := F2
      simp only [hC] at F3
      have F4 := F3.cast (Q := own y (.cells #[.int .u64 st.sg, .int .i64 (5 * (2 : Int) ^ segG st.s + (nd : Int))] 96 (0, 0)) * (own c (.cells (cntCells (cntGear c { st with first := st.first + 1 }) p { st with first := st.first + 1 } (.slice (some ⟨g, 0, none⟩) (ints (pathOf st.s)).length cap)) 175 (0, 0)) * rowAt 3 (.slice (some ⟨g, 0, none⟩) (ints (pathOf st.s)).length cap) (ints (pathOf st.s)) * (arAt p ((A.set st.sg (5 * 2 ^ segG st.s + nd) (addW x st.by')).tick fun t => { t with adds := t.adds + 1 }) * R))) (by ac_rfl)
      exact F4.right
end Go.Proofs.Ytnfpkadepomjjaa
