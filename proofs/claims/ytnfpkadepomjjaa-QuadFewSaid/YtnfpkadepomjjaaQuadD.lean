/- A walk through a tree of an arena's blocks. -/
import Derived.Deep.RegionHeld3
import Derived.Test.YtnfpkadepomjjaaQuadC
import Derived.Test.YtnfpkadepomjjaaAllB
set_option linter.all false
namespace Go.Proofs.Ytnfpkadepomjjaa
open Go Go.RowKit Go.Shelf
attribute [local go_sem] Oper.semAt_some

theorem blkOf_mem {A : Ar} {x : Int} (hx : x ∈ numsOf A) (hi : ArInv A) : ∃ b ∈ A.bs, (b.n : Int) = x ∧ blkOf A.bs x = (b.h, b.ws) := by
  obtain ⟨b, hb, e, _, h2, _⟩ := nums_blk hi (List.Perm.refl _) hx
  exact ⟨b, hb, e, h2⟩
theorem nums_nodup {A : Ar} (hi : ArInv A) : (numsOf A).Nodup := by
  have h1 : (A.bs.map fun b => (b.n : Int)).Nodup := by
    have := hi.apart
    rw [show (A.bs.map fun b => (b.n : Int)) = (A.bs.map (·.n)).map (fun n : Nat => (n : Int)) by rw [List.map_map]; rfl]
    exact List.Pairwise.map _ (fun a b (h : a ≠ b) e => h (by omega)) this
  exact (List.mergeSort_perm _ _).nodup_iff.2 h1
/-- No handle stands twice. -/
theorem allOf_nodup {A : Ar} (hi : ArInv A) : ((allOf A).map (·.1)).Nodup := by
  unfold allOf
  rw [List.map_map]
  refine List.Pairwise.map _ (R := fun a b => a ≠ b ∧ a ∈ numsOf A ∧ b ∈ numsOf A) ?_ ?_
  · rintro a b ⟨hab, ha, hb⟩ e
    obtain ⟨c, hc, ec, h1⟩ := blkOf_mem ha hi
    obtain ⟨d, hd, ed, h2⟩ := blkOf_mem hb hi
    simp only [Function.comp, h1, h2] at e
    have := handle_inj hi hc hd e
    subst this
    exact hab (ec.symm.trans ed)
  · exact (List.pairwise_iff_forall_sublist.2 fun {a b} hs => ⟨(List.pairwise_iff_forall_sublist.1 (nums_nodup hi)) hs, hs.subset (by simp), hs.subset (by simp)⟩)
theorem allOf_words {A : Ar} (hi : ArInv A) : ∀ k ∈ allOf A, (∀ x ∈ k.2, x < TW) ∧ k.1 < TW := by
  intro k hk
  obtain ⟨x, hx, rfl⟩ := List.mem_map.1 hk
  obtain ⟨b, hb, _, h1⟩ := blkOf_mem hx hi
  obtain ⟨b', hb', _, _, h2, _, _, h3⟩ := nums_blk hi (List.Perm.refl _) hx
  rw [h1] at h2
  rw [h1]
  refine ⟨hi.words b hb, ?_⟩
  have : b.h = b'.h := congrArg Prod.fst h2
  show b.h < TW
  omega
def thr (A : Ar) (root : Nat) : Bool × WSt := if root = 0 then (true, ⟨[], []⟩) else belowF (allOf A) 4 root 0 ⟨[], []⟩
theorem look_new {A : Ar} (hi : ArInv A) {pre : Wds} {b : Nat × List Nat × Value} (hp : (pre ++ [b]).map keyW <+: allOf A) : look (pre.map went) (b.1 : Int) = none := by
  rw [look_went, Option.map_eq_none_iff, List.find?_eq_none]
  intro c hc e
  have h1 := (allOf_nodup hi)
  obtain ⟨t, ht⟩ := hp
  rw [← ht] at h1
  simp only [List.map_append, List.nodup_append] at h1
  have h2 := h1.1.2.2 c.1 (List.mem_map.2 ⟨keyW c, List.mem_map.2 ⟨c, hc, rfl⟩, rfl⟩) b.1 (by simp [keyW])
  exact h2 (by simpa using e)

set_option maxHeartbeats 3200000 in
set_option maxRecDepth 100000 in
theorem through_calls (p : Nat) (A : Ar) (root : Nat) (w : World) {R : Assn} (H : Sat w (arAt p A * R)) (hr : root < TW) (hl : A.s.back.length ≤ 70000) :
    Calls Try.prog 126 #[.pointer (some ⟨p, 0, none⟩), .int .u64 root] w fun e w' => ∃ pw m xs, e = .returned (.tuple #[.pointer (some ⟨pw, 0, none⟩), .bool (thr A root).1]) ∧
      Sat w' (walkAt pw m (thr A root).2 * (wordsAt m xs * (arAt p A * R))) ∧ Kept w w' := by
  refine (callsIn_wide (n := 12)).1 ?_
  obtain ⟨ps, pb, hi, _⟩ := arAt_open H
  have hmm := @run_makeMap Try.prog
  have h1 : 1 ≤ 12 := by omega
  -- what is made first
  have HW : Hid (Sat (((w.alloc (.map #[] 0)).alloc (.cells #[.map (some w.heap.size), .slice none 0 0, .slice none 0 0] 220)).alloc (.cells #[.pointer (some ⟨w.heap.size + 1, 0, none⟩)] 215))
      (own (w.heap.size + 2) (.cells #[.pointer (some ⟨w.heap.size + 1, 0, none⟩)] 215 (0, 0)) * (walkAt (w.heap.size + 1) w.heap.size ⟨[], []⟩ * (wordsAt w.heap.size [] * (arAt p A * R))))) := by
    have h2 := ((H.alloc (.map #[] 0)).alloc (.cells #[.map (some w.heap.size), .slice none 0 0, .slice none 0 0] 220)).alloc (.cells #[.pointer (some ⟨w.heap.size + 1, 0, none⟩)] 215)
    simp only [World.size_alloc] at h2
    have h3 := mapUAt_shut (b := w.heap.size) (l := []) mapLU_nil (h2.cast (Q := own w.heap.size (.map #[] 0) * (own (w.heap.size + 1 + 1) (.cells #[.pointer (some ⟨w.heap.size + 1, 0, none⟩)] 215 (0, 0)) * (own (w.heap.size + 1) (.cells #[.map (some w.heap.size), .slice none 0 0, .slice none 0 0] 220 (0, 0)) * (arAt p A * R)))) (by ac_rfl))
    have h4 := rowK_nil (T := 25) (k := 1) (rowK_nil (T := 110) (k := 2) h3)
    refine Sat.cast (P := walkAt (w.heap.size + 1) w.heap.size ⟨[], []⟩ * (own (w.heap.size + 2) (.cells #[.pointer (some ⟨w.heap.size + 1, 0, none⟩)] 215 (0, 0)) * (wordsAt w.heap.size [] * (arAt p A * R)))) ?_ (by ac_rfl)
    refine walkAt_shut (vp := .slice none 0 0) (vh := .slice none 0 0) ?_
    refine h4.cast ?_
    show _ = own _ _ * (rowK _ _ _ 0 [] * (rowK _ _ _ 0 [] * (own _ _ * (mapUAt _ [] * 1 * _))))
    rw [Assn.mul_one]
    ac_rfl
  have HWk : Hid (Kept w (((w.alloc (.map #[] 0)).alloc (.cells #[.map (some w.heap.size), .slice none 0 0, .slice none 0 0] 220)).alloc (.cells #[.pointer (some ⟨w.heap.size + 1, 0, none⟩)] 215))) := (((Kept.refl w).alloc _).alloc _).alloc _
  by_cases hr0 : root = 0
  · subst hr0
    have e : thr A 0 = (true, ⟨[], []⟩) := rfl
    rw [e]
    clear H
    refine callsIn_of_wp Try.func126 rfl trivial ?_ rfl
    simp only [Try.ntmps126, List.size_toArray, List.length_cons, List.length_nil, Nat.reduceAdd, Nat.reduceSub, Array.replicate_succ, Array.replicate_zero, List.push_toArray, List.append_toArray, List.nil_append, List.cons_append]
    gi_wp2
    go_ret2
    exact ⟨_, _, [], rfl, HW.out.right, HWk.out⟩
  · have e : thr A root = belowF (allOf A) 4 root 0 ⟨[], []⟩ := if_neg hr0
    have hd : ((root : Int) == 0) = false := by simpa using hr0
    rw [e]
    clear H
    refine callsIn_of_wp_marks Try.func126 rfl trivial ?_ rfl
    simp only [Try.ntmps126, List.size_toArray, List.length_cons, List.length_nil, Nat.reduceAdd, Nat.reduceSub, Array.replicate_succ, Array.replicate_zero, List.push_toArray, List.append_toArray, List.nil_append, List.cons_append]
    have hfA : Fence.wide.fn 136 := trivial
    gi_wp2_with (gi_at_call 136; refine CallsIn.mono (callsIn_wide.2 (all_calls p A _ (HW.out.cast (Q := arAt p A * (own (w.heap.size + 2) (.cells #[.pointer (some ⟨w.heap.size + 1, 0, none⟩)] 215 (0, 0)) * (walkAt (w.heap.size + 1) w.heap.size ⟨[], []⟩ * (wordsAt w.heap.size [] * R)))) (by ac_rfl)) hl)) ?_; rintro e w1 ⟨x, q, bs, rfl, hp, hs1, hk1⟩)
    have Hk1 := Lib.hid (HWk.out.trans hk1)
    have hs1 := hs1.cast (Q := own (w.heap.size + 1 + 1) (.cells #[.pointer (some ⟨w.heap.size + 1, 0, none⟩)] 215 (0, 0)) * (walkAt (w.heap.size + 1) w.heap.size ⟨[], []⟩ * (wordsAt w.heap.size [] * (arAt p A * R))) * (own x (.cells #[.pointer (some ⟨q, 0, none⟩)] 24 (0, 0)) * cloAt q A bs)) (by ac_rfl)
    clear hk1 HWk HW hmm
    generalize w.heap.size + 1 + 1 = bx at *
    generalize w.heap.size + 1 = pw at *
    generalize w.heap.size = m at *
    refine wpIn_rangeFunc_sat rfl h1 (gf := 192) (lb := #[.pointer (some ⟨x, 0, none⟩)]) rfl trivial (enters_of Try.func192 (by kernel_rfl) rfl) (all_yields 11 (by omega) A hi bs hp x q) (fun _ => rfl) w Hk1.out
      (fun pre => own bx (.cells #[.pointer (some ⟨pw, 0, none⟩)] 215 (0, 0)) * (walkAt pw m ⟨[], []⟩ * (wordsAt m pre * (arAt p A * R)))) (fun _ _ => Assn.pure False) hs1
      (fun y => { tmps := #[.pointer (some ⟨p, 0, none⟩), .int .u64 root, undef, undef, .pointer none, .bool false, .pointer (some ⟨bx, 0, none⟩), .int .u64 y.1, y.2.2, .map (some m), .agg #[.map (some m), .slice none 0 0, .slice none 0 0], .pointer (some ⟨pw, 0, none⟩), .int .u64 root, .bool false, undef, .pointer (some ⟨p, 0, none⟩), .func (.func 192) #[] #[.pointer (some ⟨x, 0, none⟩)], .int .u64 y.1, y.2.2, undef, undef, undef, undef, undef, undef, undef, undef, undef, undef], defers := [] }) ?assign ?body ?done ?stop
    case assign =>
      intro l y W K hK
      gi_wp2
      exact hK
    case stop =>
      rintro D c pre W _ _ h
      have h2 := (h.cast (Assn.mul_comm _ _)).pure_mul
      exact h2.1.elim
    case body =>
      intro l pre y Rf W hpre hk hs
      have hnew := look_new hi hpre
      have hs2 := hs.cast (Q := own bx (.cells #[.pointer (some ⟨pw, 0, none⟩)] 215 (0, 0)) * (walkAt pw m ⟨[], []⟩ * (mapUAt m (pre.map went) * (wrows pre * (rowAt 25 y.2.2 (u64s y.2.1) * (arAt p A * (R * Rf))))))) (by unfold wordsAt; ac_rfl)
      have c0 := hs2.cell 0
      obtain ⟨vp, vh, hs3⟩ := walkAt_open hs2.swap
      have p0 := hs3.cell 0
      simp at c0 p0
      obtain ⟨es, clock, hml, hs4⟩ := mapUAt_open (hs.cast (Q := mapUAt m (pre.map went) * (own bx (.cells #[.pointer (some ⟨pw, 0, none⟩)] 215 (0, 0)) * (walkAt pw m ⟨[], []⟩ * (wrows pre * (rowAt 25 y.2.2 (u64s y.2.1) * (arAt p A * (R * Rf))))))) (by unfold wordsAt; ac_rfl))
      obtain ⟨w4, es', clock', hup, hl', hb', hoth, hk4, hsz⟩ := update_new_u (P := Try.prog) hs4.block hml Try.underlying218 Try.underlying25 (y.1 : Int) y.2.2 hnew
      have hs5 := mapUAt_shut hl' (hs4.upd hb' (fun i hi _ => hoth i hi))
      have hk5 := hk.trans hk4
      have hfin : Sat w4 (own bx (.cells #[.pointer (some ⟨pw, 0, none⟩)] 215 (0, 0)) * (walkAt pw m ⟨[], []⟩ * (wordsAt m (pre ++ [y]) * (arAt p A * R))) * Rf) := by
        refine hs5.cast ?_
        have e1 : wrows (pre ++ [y]) = rowAt 25 y.2.2 (u64s y.2.1) * wrows pre := by
          have := wrows_mid pre [] y
          simpa using this
        have e2 : (pre ++ [y]).map went = pre.map went ++ [((y.1 : Int), y.2.2)] := by simp [went]
        unfold wordsAt
        rw [e1, e2]
        ac_rfl
      clear hs hs2 hs3 hs4 hs5 hml hl' hb' hoth
      obtain ⟨yh, yw, yv⟩ := y
      gi_wp2
      exact ⟨hk5, hfin⟩
    case done =>
      intro D xs W hxs hk hs
      have hxk : xs.map keyW = allOf A := hxs
      have hw : ∀ b ∈ xs, ∀ z ∈ b.2.1, z < TW := fun b hb z hz => (allOf_words hi (keyW b) (by rw [← hxk]; exact List.mem_map.2 ⟨b, hb, rfl⟩)).1 z hz
      have hs2 := hs.cast (Q := own bx (.cells #[.pointer (some ⟨pw, 0, none⟩)] 215 (0, 0)) * (walkAt pw m ⟨[], []⟩ * (wordsAt m xs * (own D (.deferred (some [])) * (arAt p A * R))))) (by ac_rfl)
      have c0 := hs2.cell 0
      simp at c0
      have hB := below_all pw m xs hw 3 (by omega) root 0 ⟨[], []⟩
      rw [hxk] at hB
      have HB : Hid (∀ w (R : Assn), Sat w (walkAt pw m ⟨[], []⟩ * (wordsAt m xs * R)) → Calls Try.prog 186 #[.pointer (some ⟨pw, 0, none⟩), .int .u64 root, .int .i64 0, .int .i64 0] w fun e w' => e = .returned (.bool (belowF (allOf A) 4 root 0 ⟨[], []⟩).1) ∧ Sat w' (walkAt pw m (belowF (allOf A) 4 root 0 ⟨[], []⟩).2 * (wordsAt m xs * R)) ∧ Kept w w') :=
        fun w R h => hB w R h hr (by omega) (by decide) (by decide) (by decide)
      have HS2 := Lib.hid hs2
      have HK2 := Lib.hid hk
      clear hs hs2 hB hw hxs hk
      obtain ⟨BF, hBF⟩ : ∃ BF, BF = belowF (allOf A) 4 root 0 ⟨[], []⟩ := ⟨_, rfl⟩
      rw [← hBF] at HB
      obtain ⟨bo, bst⟩ := BF
      have HBF := Lib.hid hBF
      clear hBF e
      have hfB : Fence.wide.fn 186 := trivial
      gi_wp2_with fail
      refine wpIn_wide.2 ?_
      go_region_held3 (fun w' => w'.cell? ⟨bx, 0, none⟩ = some (.pointer (some ⟨pw, 0, none⟩)))
        (first | go_keep | exact c0' | exact c0)
        (first | (go_at_call 186; refine (HB.out W.drew _ (Sat.cast (Q := walkAt pw m ⟨[], []⟩ * (wordsAt m xs * (own D (.deferred (some [])) * (own bx (.cells #[.pointer (some ⟨pw, 0, none⟩)] 215 (0, 0)) * (arAt p A * R))))) (Sat.drew HS2.out) (by ac_rfl))).mono ?_; rintro e w5 ⟨rfl, hs5, hk5⟩; have c0' := (hs5.cast (Q := own bx (.cells #[.pointer (some ⟨pw, 0, none⟩)] 215 (0, 0)) * (walkAt pw m bst * (wordsAt m xs * (own D (.deferred (some [])) * (arAt p A * R))))) (by ac_rfl)).cell 0; simp at c0'))
      have hs6 := hs5.cast (Q := own D (.deferred (some [])) * (own bx (.cells #[.pointer (some ⟨pw, 0, none⟩)] 215 (0, 0)) * (walkAt pw m bst * (wordsAt m xs * (arAt p A * R))))) (by ac_rfl)
      have hK := hs6.block
      have hs7 := (hs6.put (.deferred none)).right.right
      have hk7 := ((HK2.out.drew.trans hk5).put D (.deferred none))
      clear hs5 hs6
      gi_wp2
      refine ⟨by simp, .inl ⟨_, _, rfl, run_takeDeferred hK, ?_⟩⟩
      exact ⟨_, results_tmp2 rfl _ _ _, pw, m, xs, by rw [← HBF.out]; rfl, by rw [← HBF.out]; exact hs7, hk7⟩
end Go.Proofs.Ytnfpkadepomjjaa
