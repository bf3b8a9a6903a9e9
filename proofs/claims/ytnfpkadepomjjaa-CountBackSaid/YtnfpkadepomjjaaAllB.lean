/- An iterator over an arena's blocks: the walk. -/
import Derived.TacticsInMore
import Derived.RegionIn
import Derived.BigRegionIn
import Derived.OwnWalkIn
import Derived.LoopNIn
import Derived.LoopIn
import Derived.Shelf.Abstract
import Derived.RangeFuncLeaves
import Derived.RangeFuncBound
import Derived.Test.YtnfpkadepomjjaaBaseAll
set_option linter.all false
namespace Go.Proofs.Ytnfpkadepomjjaa
open Go Go.RowKit Go.Shelf
attribute [local go_sem] Oper.semAt_some

/-- All: a copy is made, and held by the iterator. -/
theorem all_calls (p : Nat) (A : Ar) (w : World) {R : Assn} (H : Sat w (arAt p A * R)) (hl : A.s.back.length ≤ 70000) :
    Calls Try.prog 136 #[.pointer (some ⟨p, 0, none⟩)] w fun e w' => ∃ x q bs, e = .returned (.func (.func 192) #[] #[.pointer (some ⟨x, 0, none⟩)]) ∧ (bs.map key3).Perm (A.bs.map key3) ∧
      Sat w' (own x (.cells #[.pointer (some ⟨q, 0, none⟩)] 24 (0, 0)) * (cloAt q A bs * (arAt p A * R))) ∧ Kept w w' := by
  have HC := Lib.hid (ar_clone p A w H hl)
  clear H
  go_enter Try.func136, Try.ntmps136
  go_wp2_with fail
  refine (HC.out).mono ?_; rintro e w1 ⟨q, bs, rfl, hp, hs, hk⟩
  have Hs := Lib.hid (hs.alloc (.cells #[.pointer (some ⟨q, 0, none⟩)] 24))
  clear hs HC
  go_wp2
  go_ret
  exact ⟨_, q, bs, rfl, hp, Hs.out, hk.alloc _⟩

set_option maxHeartbeats 3200000 in
set_option maxRecDepth 100000 in
theorem all_yields (n : Nat) (hn : 7 ≤ n) (A : Ar) (hi : ArInv A) (bs : List Blk) (hp : (bs.map key3).Perm (A.bs.map key3)) (x q : Nat) :
    Yields Fence.wide n Try.prog 192 #[.pointer (some ⟨x, 0, none⟩)] (fun b : Nat × List Nat × Value => #[.int .u64 b.1, b.2.2]) (fun b => rowAt 25 b.2.2 (u64s b.2.1)) (fun b => (b.1, b.2.1)) (allOf A)
      (own x (.cells #[.pointer (some ⟨q, 0, none⟩)] 24 (0, 0)) * cloAt q A bs) := by
  intro l J Jx w0 W hY hk0 hs0
  have HY := Lib.hid hY
  clear hY
  -- the copy, opened
  obtain ⟨⟨pc, pq⟩, hs1⟩ := (hs0.cast (Q := cloAt q A bs * (J [] * own x (.cells #[.pointer (some ⟨q, 0, none⟩)] 24 (0, 0)))) (by ac_rfl)).ex_mul
  obtain ⟨Y, hY⟩ : ∃ Y : Assn, Y = stkAt pc A.s * rowsAt bs := ⟨_, rfl⟩
  obtain ⟨P0, hP0⟩ : ∃ P0 : Assn, P0 = own x (.cells #[.pointer (some ⟨q, 0, none⟩)] 24 (0, 0)) * own q (.cells (arCells A pc pq) 173 (0, 0)) := ⟨_, rfl⟩
  have Hs : Hid (Sat W (mapAt pq (bs.map ent) * (P0 * (J [] * Y)))) := by
    refine hs1.cast ?_
    rw [hY, hP0]
    simp only []
    ac_rfl
  have hS : Hid (∀ w X, Sat w (P0 * X) → w.cell? ⟨x, 0, none⟩ = some (.pointer (some ⟨q, 0, none⟩)) ∧ w.cell? ⟨q, 15, none⟩ = some (.map (some pq))) := by
    intro w X h
    rw [hP0] at h
    have h := h.cast (Q := own x (.cells #[.pointer (some ⟨q, 0, none⟩)] 24 (0, 0)) * (own q (.cells (arCells A pc pq) 173 (0, 0)) * X)) (by ac_rfl)
    exact ⟨h.cell 0, h.swap.cell 15⟩
  have hlen : bs.length ≤ 60000 := by
    have h1 := hp.length_eq
    rw [List.length_map, List.length_map] at h1
    have := blocks_le hi
    omega
  have hrng : ∀ y ∈ bs.map ent, 0 ≤ y.1 ∧ y.1 ≤ 1000000 := by
    intro y hy
    obtain ⟨b, hb, rfl⟩ := List.mem_map.1 hy
    obtain ⟨c, hc, e⟩ := List.mem_map.1 (hp.mem_iff.1 (List.mem_map.2 ⟨b, hb, rfl⟩))
    simp only [key3, Prod.mk.injEq] at e
    have hr := hi.range c hc
    simp only [ent]
    omega
  have HSort := Lib.hid (sorted_keys pq (bs.map ent) W Hs.out (by simpa using (by omega : bs.length ≤ 70000)) hrng (n - 1) (by omega) (numsOf A) (by rw [nums_perm hp, List.map_map]; rfl))
  obtain ⟨c0, c15⟩ := hS.out _ _ Hs.out.swap
  refine callsIn_of_wp Try.func192 rfl trivial ?_ rfl
  simp only [Try.ntmps192, List.size_toArray, List.length_cons, List.length_nil, Nat.reduceAdd, Nat.reduceSub, Array.replicate_succ, Array.replicate_zero, List.push_toArray, List.append_toArray, List.nil_append, List.cons_append]
  have h1 : 1 ≤ n := by omega
  have hfK : Fence.wide.fn 194 := trivial
  have hfS : Fence.wide.fn 193 := trivial
  gi_wp2_with (first
    | (gi_at_call 194; refine (keys_of _ _ _).mono ?_; rintro e w' ⟨rfl, rfl⟩)
    | (gi_at_call 193; refine HSort.out.mono ?_; rintro e w2 ⟨v, rfl, hs2, hb2⟩; obtain ⟨va, vc, rfl⟩ := rowAt_len hs2 (m := A.bs.length) (by rw [List.length_map, nums_len])))
  have Hk2 := Lib.hid (hk0.below hb2)
  clear HSort Hs hs1 hs0 c0 c15 hb2
  generalize W.heap.size = bx at *
  gi_loopw [4, 5, 15] (fun _ _ vi wr => ∃ (i : Nat) (pre : List (Nat × List Nat × Value)), vi = .int .i64 i ∧ i ≤ A.bs.length ∧ pre.map (fun b => (b.1, b.2.1)) = (allOf A).take i ∧ Kept w0 wr ∧
      Sat wr (rowAt 3 (.slice va A.bs.length vc) ((numsOf A).map fun x => .int .i64 x) * (mapAt pq (bs.map ent) * (P0 * (J pre * Y)))))
    (fun _ _ vi _ => A.bs.length - (intOf vi).toNat)
  case atStart => exact ⟨0, [], rfl, Nat.zero_le _, rfl, Hk2.out, hs2⟩
  case round =>
    obtain ⟨i, pre, rfl, hi1, hpre, hk, hs⟩ := hrel
    rcases Nat.lt_or_ge i A.bs.length with him | him
    · have hin : i < (numsOf A).length := by rw [nums_len]; exact him
      obtain ⟨b, hb, hbx, hlook, hblk, hw1, hw2, hhT⟩ := nums_blk hi hp (List.getElem_mem hin)
      have hxi : (allOf A)[i]? = some (b.h, b.ws) := by unfold allOf; rw [List.getElem?_map, List.getElem?_eq_getElem hin, Option.map_some, hblk]
      have hix : ((numsOf A).map fun x => Value.int .i64 x)[i]? = some (.int .i64 (b.n : Int)) := by rw [List.getElem?_map, List.getElem?_eq_getElem hin, hbx]; rfl
      rw [← hbx] at hlook hblk
      obtain ⟨g, rfl, hcell⟩ := rowAt_at hs hix
      have hI0 : (0 : Int) ≤ (i : Int) := by omega
      have hI1 : (i : Int) < (A.bs.length : Int) := by omega
      have hd : decide ((i : Int) < (A.bs.length : Int)) = true := by simpa using him
      have hle := blocks_le hi
      have hwi : IntKind.i64.wrap ((i : Int) + 1) = (i : Int) + 1 := IntWalk.i64_in _ (by omega)
      obtain ⟨c0, c15⟩ := hS.out _ _ (hs.cast (Q := P0 * (rowAt 3 (.slice (some ⟨g, 0, none⟩) A.bs.length vc) ((numsOf A).map fun x => .int .i64 x) * (mapAt pq (bs.map ent) * (J pre * Y)))) (by ac_rfl))
      have hrun : (Instr.lookup 171 (.map (some pq)) (.int .i64 (b.n : Int)) false).run Try.prog wr = .ok (.agg #[.int .u64 b.h, b.v]) wr := by
        obtain ⟨es, clock, hl, h5⟩ := mapAt_open hs.swap
        have := lookup_bare (P := Try.prog) h5.block hl Try.underlying171 Try.underlying3 (zero_block _) (b.n : Int)
        rw [hlook] at this
        exact this
      obtain ⟨l1, l2, hl12⟩ := List.append_of_mem hb
      have hrows := rows_mid l1 l2 b
      rw [← hl12] at hrows
      obtain ⟨Y2, hY2⟩ : ∃ Y2 : Assn, Y2 = mapAt pq (bs.map ent) * (rowAt 3 (.slice (some ⟨g, 0, none⟩) A.bs.length vc) ((numsOf A).map fun x => .int .i64 x) * (stkAt pc A.s * rowsAt (l1 ++ l2))) := ⟨_, rfl⟩
      have hs3 : Sat wr (rowAt 25 b.v (u64s b.ws) * (P0 * (J pre * Y2))) := by
        refine hs.cast ?_
        rw [hY, hY2, hrows]
        ac_rfl
      obtain ⟨ra, rn, rc, hv⟩ := rowAt_slice hs3
      rw [hv] at hs3 hrun
      have Hs3 := Lib.hid hs3
      clear hs hs2 hs3 hbx hix hin
      gi_wp2_with fail
      obtain ⟨Rw, hRw⟩ : ∃ Rw : Value → Assn, Rw = fun v => rowAt 25 v (u64s b.ws) := ⟨_, rfl⟩
      have HC : Hid (∀ w (R : Assn), Sat w (Rw (.slice ra rn rc) * R) → CallsIn Fence.wide (n - 1) Try.prog 109 #[.slice ra rn rc] w fun e w' => ∃ a n c, e = .returned (.slice a n c) ∧ Sat w' (Rw (.slice a n c) * (Rw (.slice ra rn rc) * R)) ∧ Below w.heap.size w w') := by
        subst hRw
        intro w R h
        refine callsIn_wide.2 ((clone_u64 _ b.ws w h hw1 hw2).mono ?_)
        rintro e w' ⟨v', rfl, h1, h2⟩
        obtain ⟨a, n, c, rfl⟩ := rowAt_slice h1
        exact ⟨a, n, c, rfl, h1, h2⟩
      have Hs4 := Lib.hid (Hs3.out.alloc (.cells #[.int .u64 b.h, .slice ra rn rc] 256))
      have Hk4 := Lib.hid (hk.alloc (.cells #[.int .u64 b.h, .slice ra rn rc] 256))
      generalize World.alloc wr _ = w3 at *
      generalize wr.heap.size = y at *
      obtain ⟨P1, hP1⟩ : ∃ P1 : Assn, P1 = own y (.cells #[.int .u64 b.h, .slice ra rn rc] 256 (0, 0)) := ⟨_, rfl⟩
      rw [← hP1] at Hs4
      have Hs4 : Hid (Sat w3 (P1 * (Rw (.slice ra rn rc) * (P0 * (J pre * Y2))))) := by rw [hRw]; exact Hs4
      have hS1 : Hid (∀ w X, Sat w (P1 * X) → w.cell? ⟨y, 0, none⟩ = some (.int .u64 b.h) ∧ w.cell? ⟨y, 1, none⟩ = some (.slice ra rn rc)) := by
        subst hP1
        exact fun w X h => ⟨h.cell 0, h.cell 1⟩
      have hpre2 : ∀ v : Value, (pre ++ [(b.h, b.ws, v)]).map (fun b => (b.1, b.2.1)) = (allOf A).take (i + 1) := by
        intro v
        rw [List.map_append, hpre, List.take_add_one, hxi]
        rfl
      have HY2 : Hid (∀ w4 sl, Kept w0 w4 → Sat w4 (Rw sl * (Rw (.slice ra rn rc) * (P1 * (P0 * (J pre * Y2))))) → YieldAt Fence.wide (n - 1) Try.prog l #[.int .u64 b.h, sl] w4 fun e W' => ∃ bb : Bool, e = .returned (.bool bb) ∧ Kept w0 W' ∧
          (bb = true → Sat W' (J (pre ++ [(b.h, b.ws, sl)]) * (Rw (.slice ra rn rc) * (P0 * Y2)))) ∧ (bb = false → Sat W' (Jx (pre ++ [(b.h, b.ws, sl)])))) := by
        intro w4 sl hk hs
        refine YieldAt.mono (HY.out pre (b.h, b.ws, sl) (Rw (.slice ra rn rc) * (P1 * (P0 * Y2))) w4 (by rw [hpre2]; exact List.take_prefix _ _) hk (hs.cast (by rw [hRw]; simp only []; ac_rfl))) ?_
        rintro e w ⟨h1, ⟨rfl, h2⟩ | ⟨rfl, h2⟩⟩
        · exact ⟨true, rfl, h1, fun _ => (h2.cast (Q := P1 * (J (pre ++ [(b.h, b.ws, sl)]) * (Rw (.slice ra rn rc) * (P0 * Y2)))) (by ac_rfl)).right, fun h => by cases h⟩
        · exact ⟨false, rfl, h1, (fun h => by cases h), fun _ => h2.left⟩
      obtain ⟨y0, y1⟩ := hS1.out _ _ Hs4.out
      have HRw := Lib.hid hRw
      clear hP1 hRw hcell c0 c15 hrun Hs3
      have hfC : Fence.wide.fn 109 := trivial
      gi_region_with (first
        | (gi_at_call 109; refine (HC.out w3.drew _ (Sat.cast (Q := Rw (.slice ra rn rc) * (P1 * (P0 * (J pre * Y2)))) (Sat.drew Hs4.out) (by ac_rfl))).mono ?_; rintro e w4 ⟨ca, cn, cc, rfl, hs4, hb4⟩; obtain ⟨y0', y1'⟩ := hS1.out w4 _ (hs4.cast (Q := P1 * (Rw (.slice ca cn cc) * (Rw (.slice ra rn rc) * (P0 * (J pre * Y2))))) (by ac_rfl)); obtain ⟨fn, tmps, assign, body, hyr, hR⟩ := HY2.out w4 (.slice ca cn cc) (Hk4.out.drew.below hb4) hs4)
        | (refine hR.mono ?_; rintro e w5 ⟨bb, rfl, hk5, ht5, hf5⟩))
      all_goals
        cases bb with
        | false =>
          have hf := hf5 rfl
          gi_wp2
          refine bodyPost_ret (results_none rfl _ _ _) rfl ?_
          exact ⟨⟨_, rfl⟩, hk5, .inr ⟨_, by rw [hpre2]; exact List.take_prefix _ _, hf⟩⟩
        | true =>
          have hs5 : Sat w5 (rowAt 3 (.slice (some ⟨g, 0, none⟩) A.bs.length vc) ((numsOf A).map fun x => .int .i64 x) * (mapAt pq (bs.map ent) * (P0 * (J (pre ++ [(b.h, b.ws, .slice ca cn cc)]) * Y)))) := by
            refine (ht5 rfl).cast ?_
            rw [hY, hY2, hrows, HRw.out, hv]
            simp only []
            ac_rfl
          have hm : A.bs.length - ((i : Int) + 1).toNat < A.bs.length - (i : Int).toNat := by omega
          clear ht5 hf5
          gi_wp2
          go_roundw
          case rel => exact ⟨i + 1, _, by simp, by omega, hpre2 _, hk5, hs5⟩
          case measure => simpa [intOf] using hm
    · obtain rfl : i = A.bs.length := by omega
      have hd : decide ((A.bs.length : Int) < (A.bs.length : Int)) = false := by simp
      have hfin : pre.map (fun b => (b.1, b.2.1)) = allOf A := by
        rw [hpre, List.take_of_length_le]
        unfold allOf
        rw [List.length_map, nums_len]
        exact Nat.le_refl _
      have hJ : Sat wr (J pre) := (hs.cast (Q := J pre * (rowAt 3 (.slice va A.bs.length vc) ((numsOf A).map fun x => .int .i64 x) * (mapAt pq (bs.map ent) * (P0 * Y)))) (by ac_rfl)).left
      clear hs hs2
      gi_wp2
      go_end0
      exact ⟨⟨_, rfl⟩, hk, .inl ⟨pre, hfin, hJ⟩⟩
end Go.Proofs.Ytnfpkadepomjjaa
