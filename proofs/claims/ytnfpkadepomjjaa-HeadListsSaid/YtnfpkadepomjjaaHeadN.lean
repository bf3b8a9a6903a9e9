/- A walk through entries of no arena at all. -/
import Derived.Test.YtnfpkadepomjjaaHeadT
set_option linter.all false
namespace Go.Proofs.Ytnfpkadepomjjaa
open Go Go.RowKit Go.Shelf
attribute [local go_sem] Oper.semAt_some
set_option maxRecDepth 100000

set_option maxHeartbeats 3200000 in
set_option maxRecDepth 100000 in
theorem yields_nil (n : Nat) (x : Nat) :
    Yields Fence.wide n Try.prog 192 #[.pointer (some ⟨x, 0, none⟩)] (fun b : Nat × List Nat × Value => #[.int .u64 b.1, b.2.2]) (fun b => rowAt 25 b.2.2 (u64s b.2.1)) (fun b => (b.1, b.2.1)) []
      (own x (.cells #[.pointer none] 24 (0, 0))) := by
  intro l J Jx w0 W hY hk0 hs0
  have c0 := (hs0.cast (Q := own x (.cells #[.pointer none] 24 (0, 0)) * J []) (Assn.mul_comm _ _)).cell 0
  simp at c0
  have HJ := Lib.hid hs0.left
  have HK := Lib.hid hk0
  clear hY hs0 hk0
  refine callsIn_of_wp Try.func192 rfl trivial ?_ rfl
  simp only [Try.ntmps192, List.size_toArray, List.length_cons, List.length_nil, Nat.reduceAdd, Nat.reduceSub, Array.replicate_succ, Array.replicate_zero, List.push_toArray, List.append_toArray, List.nil_append, List.cons_append]
  gi_wp2
  refine bodyPost_ret (results_none rfl _ _ _) rfl ?_
  exact ⟨⟨_, rfl⟩, HK.out, .inl ⟨[], rfl, HJ.out⟩⟩
/-- All of no arena: a function that hands over nothing. -/
theorem allN_vc : (callN Try.prog ([] : List (Smry Try.prog XR)) (fun _ _ => false) 100 20 136 [.c (.raw (.pointer none))] ⟨[], 100⟩ .nil (fun v m _ => outM (.c (.fn (.func 192) [] [.ptr 10 0])) [(10, .cells [.raw (.pointer none)] 24)] v m)) = ((Value.pointer none = Value.pointer none ∧ True) ∧ True) := by
  kernel_rfl
theorem allN_run : Run (callN Try.prog ([] : List (Smry Try.prog XR)) (fun _ _ => false) 100 20 136 [.c (.raw (.pointer none))] ⟨[], 100⟩ .nil (fun v m _ => outM (.c (.fn (.func 192) [] [.ptr 10 0])) [(10, .cells [.raw (.pointer none)] 24)] v m)) := by
  constructor
  rw [allN_vc]
  exact ⟨⟨rfl, trivial⟩, trivial⟩
theorem all_nil (w : World) {R : Assn} (H : Sat w R) : Calls Try.prog 136 #[.pointer none] w fun e w' => ∃ x, e = .returned (.func (.func 192) #[] #[.pointer (some ⟨x, 0, none⟩)]) ∧
      Sat w' (R * own x (.cells #[.pointer none] 24 (0, 0))) ∧ Kept w w' := by
  refine (callN_ok namesOk mixed _ _ _ _ _ _ ⟨[], 100⟩ _ _ allN_run.out (fun _ => 0) w R w (by simp only [SH.den]; rw [Assn.one_mul]; exact H) (Kept.refl w)).mono ?_
  rintro e w' ⟨v, m', s', ξ, ho, ag, _, he, hs, hk⟩
  obtain ⟨κ, agk, hv, hs⟩ := outM_sound ho hs
  refine ⟨κ 10, by rw [he, hv]; simp only [SV.den, SC.den, SC.denL], ?_, hk⟩
  refine hs.cast ?_
  show own (κ 10) (.cells #[.pointer none] _ (0, 0)) * 1 * R = _
  rw [Assn.mul_one, Assn.mul_comm]
/-- What the entries behind a cursor are where there is no arena. -/
def HResN (cur : Nat) (R : Assn) (e : Ending) (w' : World) : Prop := match chainF [] 1001 cur [] with
  | none => e = .returned (.tuple #[.slice none 0 0, .slice none 0 0, .bool false]) ∧ Sat w' R
  | some l => ∃ v1 v2, e = .returned (.tuple #[v1, v2, .bool true]) ∧ Sat w' (rowK 119 3 v1 l.length (ecells l) * (rowK 25 1 v2 l.length (ccells l) * R))
set_option maxHeartbeats 3200000 in
set_option maxRecDepth 100000 in
theorem hthrough_nil (cur : Nat) (w : World) {R : Assn} (H : Sat w R) (hr : cur < TW) :
    Calls Try.prog 131 #[.pointer none, .int .u64 cur] w fun e w' => Kept w w' ∧ HResN cur R e w' := by
  refine (callsIn_wide (n := 12)).1 ?_
  have hmm := @run_makeMap Try.prog
  have h1 : 1 ≤ 12 := by omega
  -- what is made first
  have HW : RowKit.Hid (Sat ((w.alloc (.map #[] 0)).alloc (.cells #[.map (some w.heap.size)] 218))
      (own (w.heap.size + 1) (.cells #[.map (some w.heap.size)] 218 (0, 0)) * (wordsAt w.heap.size [] * R))) := by
    have h2 := ((H.alloc (.map #[] 0)).alloc (.cells #[.map (some w.heap.size)] 218))
    simp only [World.size_alloc] at h2
    have h3 := mapUAt_shut (b := w.heap.size) (l := []) mapLU_nil (h2.cast (Q := own w.heap.size (.map #[] 0) * (own (w.heap.size + 1) (.cells #[.map (some w.heap.size)] 218 (0, 0)) * R)) (by ac_rfl))
    refine h3.cast ?_
    show _ = own _ _ * (mapUAt _ [] * 1 * _)
    rw [Assn.mul_one]
    ac_rfl
  have HWk : RowKit.Hid (Kept w ((w.alloc (.map #[] 0)).alloc (.cells #[.map (some w.heap.size)] 218))) := ((Kept.refl w).alloc _).alloc _
  clear H
  refine callsIn_of_wp_marks Try.func131 rfl trivial ?_ rfl
  simp only [Try.ntmps131, List.size_toArray, List.length_cons, List.length_nil, Nat.reduceAdd, Nat.reduceSub, Array.replicate_succ, Array.replicate_zero, List.push_toArray, List.append_toArray, List.nil_append, List.cons_append]
  have hfA : Fence.wide.fn 136 := trivial
  gi_wp2_with (gi_at_call 136; refine CallsIn.mono (callsIn_wide.2 (all_nil _ HW.out)) ?_; rintro e w1 ⟨x, rfl, hs1, hk1⟩)
  have Hk1 := Lib.hid (HWk.out.trans hk1)
  have hs1 := hs1.cast (Q := own (w.heap.size + 1) (.cells #[.map (some w.heap.size)] 218 (0, 0)) * (wordsAt w.heap.size [] * R) * own x (.cells #[.pointer none] 24 (0, 0))) (by ac_rfl)
  clear hk1 HWk HW hmm
  generalize w.heap.size + 1 = bx at *
  generalize w.heap.size = m at *
  refine wpIn_rangeFunc_sat rfl h1 (gf := 192) (lb := #[.pointer (some ⟨x, 0, none⟩)]) rfl trivial (enters_of Try.func192 (by kernel_rfl) rfl) (yields_nil 11 x) (fun _ => rfl) w Hk1.out
    (fun pre => own bx (.cells #[.map (some m)] 218 (0, 0)) * (wordsAt m pre * R)) (fun _ _ => Assn.pure False) hs1
    (fun y => { tmps := #[.pointer none, .int .u64 cur, undef, undef, .slice none 0 0, .slice none 0 0, .bool false, .pointer (some ⟨bx, 0, none⟩), .int .u64 y.1, y.2.2, undef, undef, undef, undef, .map (some m), .pointer none, .func (.func 192) #[] #[.pointer (some ⟨x, 0, none⟩)], .int .u64 y.1, y.2.2, undef, undef, undef, undef, undef, undef, undef, undef, undef, undef, undef, undef, undef, undef, undef, undef, undef, undef, undef, undef, undef, undef, undef, undef, undef, undef, undef, undef, undef, undef, undef], defers := [] }) ?assign ?body ?done ?stop
  case assign =>
    intro l y W K hK
    gi_wp2
    exact hK
  case stop =>
    rintro D c pre W _ _ h
    have h2 := (h.cast (Assn.mul_comm _ _)).pure_mul
    exact h2.1.elim
  case body =>
    intro l pre y Rf W hpre hk hs
    obtain ⟨z, hz⟩ := hpre
    simp at hz
  case done =>
    intro D xs W hxs hk hs
    have hxk : xs.map keyW = [] := hxs
    have hxe : xs = [] := List.map_eq_nil_iff.1 hxk
    have hw : ∀ b ∈ xs, ∀ z ∈ b.2.1, z < TW := fun b hb => by rw [hxe] at hb; cases hb
    have HS := Lib.hid hs
    have HK := Lib.hid hk
    clear hs hk
    gi_wp2
    refine wpIn_wide.2 ?_
    have hrun := codeE_sound (callN_ok namesOk mixed [readEntR] (fun _ _ => false) 100 20) namesOk mixed (loopOf Try.prog 131 8) _ _ _ _ (loopHd_run (.pointer none) cur (.func (.func 192) #[] #[.pointer (some ⟨x, 0, none⟩)]) { target := .collected D, args := #[] } xs ⟨hr, hw⟩).out 10 (Nat.le_refl _) (fun n => if n = 0 then bx else m) W (own D (.deferred (some [])) * R) w (HS.out.cast (by
      unfold wordsAt
      show _ = own bx (.cells #[.map (some m)] 218 (0, 0)) * (mapUAt m (xs.map went) * (wrows xs * 1)) * _
      rw [Assn.mul_one]
      ac_rfl)) HK.out
    rw [hxk] at hrun
    refine wp_conv (by kernel_rfl) (by kernel_rfl) hrun ?_
    clear hrun
    intro e a w' he
    rcases endH_out he with ⟨rfl, v1, v2, ρ, l, rfl, hch, hs3, hk3⟩ | ⟨rfl, hch, ρ, rfl, hs3, hk3⟩
    · have ea : ∀ dd, actF (fun i => if i = 10 then v1 else if i = 11 then v2 else ρ i) dd = ⟨#[ρ 0, ρ 1, ρ 2, ρ 3, ρ 4, ρ 5, ρ 6, ρ 7, ρ 8, ρ 9, v1, v2, ρ 12, ρ 13, ρ 14, ρ 15, ρ 16, ρ 17, ρ 18, ρ 19, ρ 20, ρ 21, ρ 22, ρ 23, ρ 24, ρ 25, ρ 26, ρ 27, ρ 28, ρ 29, ρ 30, ρ 31, ρ 32, ρ 33, ρ 34, ρ 35, ρ 36, ρ 37, ρ 38, ρ 39, ρ 40, ρ 41, ρ 42, ρ 43, ρ 44, ρ 45, ρ 46, ρ 47, ρ 48, ρ 49], [dd]⟩ := fun dd => by kernel_rfl
      rw [ea]
      have hsD := hs3.cast (Q := own D (.deferred (some [])) * (rowK 119 3 v1 l.length (ecells l) * (rowK 25 1 v2 l.length (ccells l) * R))) (by ac_rfl)
      have hKD := hsD.block
      have hs7 := (hsD.put (.deferred none)).right
      have hk7 := (hk3.put D (.deferred none))
      have HR : RowKit.Hid (∀ w2, Sat w2 (rowK 119 3 v1 l.length (ecells l) * (rowK 25 1 v2 l.length (ccells l) * R)) → HResN cur R (.returned (.tuple #[v1, v2, .bool true])) w2) := fun w2 h => by
        unfold HResN
        rw [hch]
        exact ⟨v1, v2, rfl, h⟩
      have hs7 := Lib.hid hs7
      clear he ea hs3 hsD
      go_wp2
      gi_wp2
      refine ⟨by simp, .inl ⟨_, _, rfl, run_takeDeferred hKD, ?_⟩⟩
      exact ⟨_, results_tmp3 (t := 4) (u := 5) (v := 6) rfl _ _ _, hk7, HR.out _ hs7.out⟩
    · have ea : ∀ dd, actF (fun i => if i = 4 then .slice none 0 0 else if i = 5 then .slice none 0 0 else if i = 6 then .bool false else ρ i) dd = ⟨#[ρ 0, ρ 1, ρ 2, ρ 3, .slice none 0 0, .slice none 0 0, .bool false, ρ 7, ρ 8, ρ 9, ρ 10, ρ 11, ρ 12, ρ 13, ρ 14, ρ 15, ρ 16, ρ 17, ρ 18, ρ 19, ρ 20, ρ 21, ρ 22, ρ 23, ρ 24, ρ 25, ρ 26, ρ 27, ρ 28, ρ 29, ρ 30, ρ 31, ρ 32, ρ 33, ρ 34, ρ 35, ρ 36, ρ 37, ρ 38, ρ 39, ρ 40, ρ 41, ρ 42, ρ 43, ρ 44, ρ 45, ρ 46, ρ 47, ρ 48, ρ 49], [dd]⟩ := fun dd => by kernel_rfl
      rw [ea]
      have hKD := hs3.block
      have hs7 := (hs3.put (.deferred none)).right
      have hk7 := (hk3.put D (.deferred none))
      have HR : RowKit.Hid (∀ w2, Sat w2 R → HResN cur R (.returned (.tuple #[.slice none 0 0, .slice none 0 0, .bool false])) w2) := fun w2 h => by
        unfold HResN
        rw [hch]
        exact ⟨rfl, h⟩
      have hs7 := Lib.hid hs7
      clear he ea hs3
      go_wp2
      refine ⟨by simp, .inl ⟨_, _, rfl, run_takeDeferred hKD, ?_⟩⟩
      exact ⟨_, results_tmp3 (t := 4) (u := 5) (v := 6) rfl _ _ _, hk7, HR.out _ hs7.out⟩
set_option maxHeartbeats 800000 in
set_option maxRecDepth 100000 in
theorem hlist_nil (cur : Nat) (w : World) {R : Assn} (H : Sat w R) (hr : cur < TW) :
    Calls Try.prog 56 #[.pointer none, .int .u64 cur] w fun e w' => Kept w w' ∧
      ((chainF [] 1001 cur [] = none ∧ e = .returned (.tuple #[.slice none 0 0, .bool false]) ∧ Sat w' R) ∨
      (∃ l, chainF [] 1001 cur [] = some l ∧ ∃ v, e = .returned (.tuple #[v, .bool true]) ∧ Sat w' (rowK 119 3 v l.length (ecells l) * R))) := by
  have HT := hthrough_nil cur w H hr
  unfold HResN at HT
  have HT := Lib.hid HT
  generalize chainF [] 1001 cur [] = C at *
  clear H
  go_enter Try.func56, Try.ntmps56
  go_wp2_with fail
  refine (HT.out).mono ?_; rintro e w1 ⟨hk, hres⟩
  cases C with
  | none =>
    obtain ⟨rfl, hs⟩ := hres
    have HS := Lib.hid hs
    clear hs
    go_wp2
    go_ret2
    first
      | exact ⟨hk, .inl ⟨rfl, rfl, HS.out⟩⟩
      | exact ⟨hk, rfl, HS.out⟩
      | (refine ⟨hk, ?_⟩; simp; exact HS.out)
  | some l =>
    obtain ⟨v1, v2, rfl, hs⟩ := hres
    have HS := Lib.hid hs
    clear hs
    go_wp2
    go_ret2
    first
      | exact ⟨hk, .inr ⟨l, rfl, v1, rfl, HS.out.swap.right⟩⟩
      | exact ⟨hk, l, rfl, v1, rfl, HS.out.swap.right⟩
      | exact ⟨hk, v1, rfl, HS.out.swap.right⟩

set_option maxHeartbeats 800000 in
set_option maxRecDepth 100000 in
theorem hhandles_nil (cur : Nat) (w : World) {R : Assn} (H : Sat w R) (hr : cur < TW) :
    Calls Try.prog 57 #[.pointer none, .int .u64 cur] w fun e w' => Kept w w' ∧
      ((chainF [] 1001 cur [] = none ∧ e = .returned (.tuple #[.slice none 0 0, .bool false]) ∧ Sat w' R) ∨
      (∃ l, chainF [] 1001 cur [] = some l ∧ ∃ v, e = .returned (.tuple #[v, .bool true]) ∧ Sat w' (rowK 25 1 v l.length (ccells l) * R))) := by
  have HT := hthrough_nil cur w H hr
  unfold HResN at HT
  have HT := Lib.hid HT
  generalize chainF [] 1001 cur [] = C at *
  clear H
  go_enter Try.func57, Try.ntmps57
  go_wp2_with fail
  refine (HT.out).mono ?_; rintro e w1 ⟨hk, hres⟩
  cases C with
  | none =>
    obtain ⟨rfl, hs⟩ := hres
    have HS := Lib.hid hs
    clear hs
    go_wp2
    go_ret2
    first
      | exact ⟨hk, .inl ⟨rfl, rfl, HS.out⟩⟩
      | exact ⟨hk, rfl, HS.out⟩
      | (refine ⟨hk, ?_⟩; simp; exact HS.out)
  | some l =>
    obtain ⟨v1, v2, rfl, hs⟩ := hres
    have HS := Lib.hid hs
    clear hs
    go_wp2
    go_ret2
    first
      | exact ⟨hk, .inr ⟨l, rfl, v2, rfl, HS.out.right⟩⟩
      | exact ⟨hk, l, rfl, v2, rfl, HS.out.right⟩
      | exact ⟨hk, v2, rfl, HS.out.right⟩
end Go.Proofs.Ytnfpkadepomjjaa
