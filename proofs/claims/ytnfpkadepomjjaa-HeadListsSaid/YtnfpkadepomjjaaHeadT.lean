/- A walk through entries, one by the next of the other. -/
import Derived.Deep.RegionHeld3
import Derived.Test.YtnfpkadepomjjaaBaseQ0
import Derived.Test.YtnfpkadepomjjaaBaseF
set_option linter.all false
namespace Go.Proofs.Ytnfpkadepomjjaa
open Go Go.RowKit Go.Shelf
attribute [local go_sem] Oper.semAt_some

theorem wp_conv {P : Program} {c c' : Code} {a a' : Act} {w : World} {Q Q' : Exit → Act → World → Prop} (hc : c' = c) (ha : a' = a) (h : c'.wp P Q a' w) (hm : ∀ e a w', Q e a w' → Q' e a w') : c.wp P Q' a w := by
  subst hc ha
  exact wp_mono h hm
def ecells (l : List Ent) : List Value := valsOf l.length (entV l)
def ccells (l : List Ent) : List Value := intsOf .u64 l.length (entC l)
/-- What the entries behind a cursor are, and how they are handed back. -/
def HRes (A : Ar) (cur p : Nat) (R : Assn) (e : Ending) (w' : World) : Prop := match chainF (allOf A) 1001 cur [] with
  | none => e = .returned (.tuple #[.slice none 0 0, .slice none 0 0, .bool false]) ∧ Sat w' (arAt p A * R)
  | some l => ∃ v1 v2, e = .returned (.tuple #[v1, v2, .bool true]) ∧ Sat w' (rowK 119 3 v1 l.length (ecells l) * (rowK 25 1 v2 l.length (ccells l) * (arAt p A * R)))
theorem ecells_len (l : List Ent) : (ecells l).length = l.length * 3 := valsOf_len 3 l.length (entV l) (fun _ _ => rfl)
/-- What is left behind the loop, told of rows. -/
def HMid (A : Ar) (cur p : Nat) (R : Assn) (v1 v2 : Value) (w' : World) : Prop := ∃ l, chainF (allOf A) 1001 cur [] = some l ∧ Sat w' (rowK 119 3 v1 l.length (ecells l) * (rowK 25 1 v2 l.length (ccells l) * (arAt p A * R)))
def actF (g : Nat → Value) (dd : Deferred) : Act := ⟨((List.range 50).map g).toArray, [dd]⟩
theorem endH_out {ks : List (Nat × List Nat)} {c0 cur n : Nat} {pv fv : Value} {dd : Deferred} {ν : Nat → Nat} {Rx : Assn} {w0 w' : World} {e : Exit} {a : Act} (he : QC (endH ks c0 (f0H pv cur fv dd)) n ν Rx w0 e a w') :
    (e = .exit 2 ∧ ∃ (v1 v2 : Value) (ρ : Nat → Value) (l : List Ent), a = actF (fun i => if i = 10 then v1 else if i = 11 then v2 else ρ i) dd ∧ chainF ks 1001 c0 [] = some l ∧
      Sat w' (rowK 119 3 v1 l.length (ecells l) * (rowK 25 1 v2 l.length (ccells l) * Rx)) ∧ Kept w0 w') ∨
    (e = .ret ∧ chainF ks 1001 c0 [] = none ∧ ∃ (ρ : Nat → Value), a = actF (fun i => if i = 4 then .slice none 0 0 else if i = 5 then .slice none 0 0 else if i = 6 then .bool false else ρ i) dd ∧ Sat w' Rx ∧ Kept w0 w') := by
  cases e with
  | normal =>
    obtain ⟨f, m, s, μ, hk, _⟩ := he
    exact hk.elim
  | exit i =>
    obtain ⟨f, m, s, μ, hk, _, _, rfl, hs, hkept⟩ := he
    left
    match i, hk with
    | 0, hk => exact hk.elim
    | 1, hk => exact hk.elim
    | i + 3, hk => exact hk.elim
    | 2, hk =>
      have hk : (match f.at 10 with
        | .c .nls => chainF ks 1001 c0 [] = some [] ∧ closeE 300 (liveL []) (f0H pv cur fv dd) [] ([(10, .c .nls), (11, .c .nls)], []) f m.hp
        | _ => ∃ s : HSt, chainF ks 1001 c0 [] = some s.l ∧ closeE 300 (liveL []) (f0H pv cur fv dd) [] ([(10, sli1 310 s), (11, sli2 311 s)], rowsH 310 s) f m.hp) := hk
      refine ⟨rfl, ?_⟩
      split at hk
      · obtain ⟨hch, hcl⟩ := hk
        obtain ⟨h1, h2⟩ := closeE_sound hcl
        obtain ⟨κ, ρ, _, ha, hs2⟩ := Close_sound h2 h1 hs
        refine ⟨.slice none 0 0, .slice none 0 0, ρ, [], ?_, hch, ?_, hkept⟩
        · rw [ha]; kernel_rfl
        · refine rowK_nil (rowK_nil (hs2.cast ?_))
          show 1 * Rx = Rx
          exact Assn.one_mul _
      · obtain ⟨st, hch, hcl⟩ := hk
        obtain ⟨h1, h2⟩ := closeE_sound hcl
        obtain ⟨κ, ρ, _, ha, hs2⟩ := Close_sound h2 h1 hs
        refine ⟨.slice (some ⟨κ 310, 0, none⟩) st.l.length st.cap1, .slice (some ⟨κ 311, 0, none⟩) st.l.length st.cap2, ρ, st.l, ?_, hch, ?_, hkept⟩
        · rw [ha]; kernel_rfl
        · have h3 : Sat w' ((Assn.pure (∀ i, i < st.l.length → (entV st.l i).length = 3) * rowHead (κ 310) 119 3 st.l.length st.cap1 (ecells st.l)) * (rowHead (κ 311) 25 1 st.l.length st.cap2 (ccells st.l) * Rx)) := by
            refine hs2.cast ?_
            show (Assn.pure _ * rowHead _ _ _ _ _ _) * (rowHead _ _ _ _ _ _ * 1) * Rx = _
            rw [Assn.mul_one]
            ac_rfl
          rw [Assn.mul_assoc] at h3
          have h4 := head_rowK h3.pure_mul.2 (Nat.le_refl _)
          rw [List.take_of_length_le (by rw [ecells_len]; omega)] at h4
          have h5 := head_rowK h4.swap (Nat.le_refl _)
          rw [List.take_of_length_le (by simp [ccells, intsOf])] at h5
          exact h5.swap
  | ret =>
    obtain ⟨f, m, s, μ, hk, _, _, rfl, hs, hkept⟩ := he
    right
    obtain ⟨hch, hcl⟩ := hk
    obtain ⟨h1, h2⟩ := closeE_sound hcl
    obtain ⟨κ, ρ, _, ha, hs2⟩ := Close_sound h2 h1 hs
    refine ⟨rfl, hch, ρ, ?_, ?_, hkept⟩
    · rw [ha]; kernel_rfl
    · refine hs2.cast ?_
      show 1 * Rx = Rx
      exact Assn.one_mul _
  | _ => exact he.elim
set_option maxHeartbeats 3200000 in
set_option maxRecDepth 100000 in
theorem hthrough_calls (p : Nat) (A : Ar) (cur : Nat) (w : World) {R : Assn} (H : Sat w (arAt p A * R)) (hr : cur < TW) (hl : A.s.back.length ≤ 70000) :
    Calls Try.prog 131 #[.pointer (some ⟨p, 0, none⟩), .int .u64 cur] w fun e w' => Kept w w' ∧ HRes A cur p R e w' := by
  refine (callsIn_wide (n := 12)).1 ?_
  obtain ⟨ps, pb, hi, _⟩ := arAt_open H
  have hmm := @run_makeMap Try.prog
  have h1 : 1 ≤ 12 := by omega
  -- what is made first
  have HW : RowKit.Hid (Sat ((w.alloc (.map #[] 0)).alloc (.cells #[.map (some w.heap.size)] 218))
      (own (w.heap.size + 1) (.cells #[.map (some w.heap.size)] 218 (0, 0)) * (wordsAt w.heap.size [] * (arAt p A * R)))) := by
    have h2 := ((H.alloc (.map #[] 0)).alloc (.cells #[.map (some w.heap.size)] 218))
    simp only [World.size_alloc] at h2
    have h3 := mapUAt_shut (b := w.heap.size) (l := []) mapLU_nil (h2.cast (Q := own w.heap.size (.map #[] 0) * (own (w.heap.size + 1) (.cells #[.map (some w.heap.size)] 218 (0, 0)) * (arAt p A * R))) (by ac_rfl))
    refine h3.cast ?_
    show _ = own _ _ * (mapUAt _ [] * 1 * _)
    rw [Assn.mul_one]
    ac_rfl
  have HWk : RowKit.Hid (Kept w ((w.alloc (.map #[] 0)).alloc (.cells #[.map (some w.heap.size)] 218))) := ((Kept.refl w).alloc _).alloc _
  clear H
  refine callsIn_of_wp_marks Try.func131 rfl trivial ?_ rfl
  simp only [Try.ntmps131, List.size_toArray, List.length_cons, List.length_nil, Nat.reduceAdd, Nat.reduceSub, Array.replicate_succ, Array.replicate_zero, List.push_toArray, List.append_toArray, List.nil_append, List.cons_append]
  have hfA : Fence.wide.fn 136 := trivial
  gi_wp2_with (gi_at_call 136; refine CallsIn.mono (callsIn_wide.2 (all_calls p A _ (HW.out.cast (Q := arAt p A * (own (w.heap.size + 1) (.cells #[.map (some w.heap.size)] 218 (0, 0)) * (wordsAt w.heap.size [] * R))) (by ac_rfl)) hl)) ?_; rintro e w1 ⟨x, q, bs, rfl, hp, hs1, hk1⟩)
  have Hk1 := Lib.hid (HWk.out.trans hk1)
  have hs1 := hs1.cast (Q := own (w.heap.size + 1) (.cells #[.map (some w.heap.size)] 218 (0, 0)) * (wordsAt w.heap.size [] * (arAt p A * R)) * (own x (.cells #[.pointer (some ⟨q, 0, none⟩)] 24 (0, 0)) * cloAt q A bs)) (by ac_rfl)
  clear hk1 HWk HW hmm
  generalize w.heap.size + 1 = bx at *
  generalize w.heap.size = m at *
  refine wpIn_rangeFunc_sat rfl h1 (gf := 192) (lb := #[.pointer (some ⟨x, 0, none⟩)]) rfl trivial (enters_of Try.func192 (by kernel_rfl) rfl) (all_yields 11 (by omega) A hi bs hp x q) (fun _ => rfl) w Hk1.out
    (fun pre => own bx (.cells #[.map (some m)] 218 (0, 0)) * (wordsAt m pre * (arAt p A * R))) (fun _ _ => Assn.pure False) hs1
    (fun y => { tmps := #[.pointer (some ⟨p, 0, none⟩), .int .u64 cur, undef, undef, .slice none 0 0, .slice none 0 0, .bool false, .pointer (some ⟨bx, 0, none⟩), .int .u64 y.1, y.2.2, undef, undef, undef, undef, .map (some m), .pointer (some ⟨p, 0, none⟩), .func (.func 192) #[] #[.pointer (some ⟨x, 0, none⟩)], .int .u64 y.1, y.2.2, undef, undef, undef, undef, undef, undef, undef, undef, undef, undef, undef, undef, undef, undef, undef, undef, undef, undef, undef, undef, undef, undef, undef, undef, undef, undef, undef, undef, undef, undef, undef], defers := [] }) ?assign ?body ?done ?stop
  case assign =>
    intro l y W K hK
    gi_wp2
    exact hK
  case stop =>
    rintro D c pre W _ _ h
    have h2 := (h.cast (Assn.mul_comm _ _)).pure_mul
    exact h2.1.elim
  case body =>
    intro l pre y Rf W hpre hk hs
    have hnew := look_new hi hpre
    have hs2 := hs.cast (Q := own bx (.cells #[.map (some m)] 218 (0, 0)) * (mapUAt m (pre.map went) * (wrows pre * (rowAt 25 y.2.2 (u64s y.2.1) * (arAt p A * (R * Rf)))))) (by unfold wordsAt; ac_rfl)
    have c0 := hs2.cell 0
    simp at c0
    obtain ⟨es, clock, hml, hs4⟩ := mapUAt_open (hs.cast (Q := mapUAt m (pre.map went) * (own bx (.cells #[.map (some m)] 218 (0, 0)) * (wrows pre * (rowAt 25 y.2.2 (u64s y.2.1) * (arAt p A * (R * Rf)))))) (by unfold wordsAt; ac_rfl))
    obtain ⟨w4, es', clock', hup, hl', hb', hoth, hk4, hsz⟩ := update_new_u (P := Try.prog) hs4.block hml Try.underlying218 Try.underlying25 (y.1 : Int) y.2.2 hnew
    have hs5 := mapUAt_shut hl' (hs4.upd hb' (fun i hi _ => hoth i hi))
    have hk5 := hk.trans hk4
    have hfin : Sat w4 (own bx (.cells #[.map (some m)] 218 (0, 0)) * (wordsAt m (pre ++ [y]) * (arAt p A * R)) * Rf) := by
      refine hs5.cast ?_
      have e1 : wrows (pre ++ [y]) = rowAt 25 y.2.2 (u64s y.2.1) * wrows pre := by
        have := wrows_mid pre [] y
        simpa using this
      have e2 : (pre ++ [y]).map went = pre.map went ++ [((y.1 : Int), y.2.2)] := by simp [went]
      unfold wordsAt
      rw [e1, e2]
      ac_rfl
    clear hs hs2 hs4 hs5 hml hl' hb' hoth
    obtain ⟨yh, yw, yv⟩ := y
    gi_wp2
    exact ⟨hk5, hfin⟩
  case done =>
    intro D xs W hxs hk hs
    have hxk : xs.map keyW = allOf A := hxs
    have hw : ∀ b ∈ xs, ∀ z ∈ b.2.1, z < TW := fun b hb z hz => (allOf_words hi (keyW b) (by rw [← hxk]; exact List.mem_map.2 ⟨b, hb, rfl⟩)).1 z hz
    have HS := Lib.hid hs
    have HK := Lib.hid hk
    clear hs hk
    gi_wp2
    refine wpIn_wide.2 ?_
    have hrun := codeE_sound (callN_ok namesOk mixed [readEntR] (fun _ _ => false) 100 20) namesOk mixed (loopOf Try.prog 131 8) _ _ _ _ (loopHd_run (.pointer (some ⟨p, 0, none⟩)) cur (.func (.func 192) #[] #[.pointer (some ⟨x, 0, none⟩)]) { target := .collected D, args := #[] } xs ⟨hr, hw⟩).out 10 (Nat.le_refl _) (fun n => if n = 0 then bx else m) W (own D (.deferred (some [])) * (arAt p A * R)) w (HS.out.cast (by
      unfold wordsAt
      show _ = own bx (.cells #[.map (some m)] 218 (0, 0)) * (mapUAt m (xs.map went) * (wrows xs * 1)) * _
      rw [Assn.mul_one]
      ac_rfl)) HK.out
    rw [hxk] at hrun
    refine wp_conv (by kernel_rfl) (by kernel_rfl) hrun ?_
    clear hrun
    intro e a w' he
    rcases endH_out he with ⟨rfl, v1, v2, ρ, l, rfl, hch, hs3, hk3⟩ | ⟨rfl, hch, ρ, rfl, hs3, hk3⟩
    · have ea : ∀ dd, actF (fun i => if i = 10 then v1 else if i = 11 then v2 else ρ i) dd = ⟨#[ρ 0, ρ 1, ρ 2, ρ 3, ρ 4, ρ 5, ρ 6, ρ 7, ρ 8, ρ 9, v1, v2, ρ 12, ρ 13, ρ 14, ρ 15, ρ 16, ρ 17, ρ 18, ρ 19, ρ 20, ρ 21, ρ 22, ρ 23, ρ 24, ρ 25, ρ 26, ρ 27, ρ 28, ρ 29, ρ 30, ρ 31, ρ 32, ρ 33, ρ 34, ρ 35, ρ 36, ρ 37, ρ 38, ρ 39, ρ 40, ρ 41, ρ 42, ρ 43, ρ 44, ρ 45, ρ 46, ρ 47, ρ 48, ρ 49], [dd]⟩ := fun dd => by kernel_rfl
      rw [ea]
      have hsD := hs3.cast (Q := own D (.deferred (some [])) * (rowK 119 3 v1 l.length (ecells l) * (rowK 25 1 v2 l.length (ccells l) * (arAt p A * R)))) (by ac_rfl)
      have hKD := hsD.block
      have hs7 := (hsD.put (.deferred none)).right
      have hk7 := (hk3.put D (.deferred none))
      have HR : RowKit.Hid (∀ w2, Sat w2 (rowK 119 3 v1 l.length (ecells l) * (rowK 25 1 v2 l.length (ccells l) * (arAt p A * R))) → HRes A cur p R (.returned (.tuple #[v1, v2, .bool true])) w2) := fun w2 h => by
        unfold HRes
        rw [hch]
        exact ⟨v1, v2, rfl, h⟩
      have hs7 := Lib.hid hs7
      clear he ea hs3 hsD
      go_wp2
      gi_wp2
      refine ⟨by simp, .inl ⟨_, _, rfl, run_takeDeferred hKD, ?_⟩⟩
      exact ⟨_, results_tmp3 (t := 4) (u := 5) (v := 6) rfl _ _ _, hk7, HR.out _ hs7.out⟩
    · have ea : ∀ dd, actF (fun i => if i = 4 then .slice none 0 0 else if i = 5 then .slice none 0 0 else if i = 6 then .bool false else ρ i) dd = ⟨#[ρ 0, ρ 1, ρ 2, ρ 3, .slice none 0 0, .slice none 0 0, .bool false, ρ 7, ρ 8, ρ 9, ρ 10, ρ 11, ρ 12, ρ 13, ρ 14, ρ 15, ρ 16, ρ 17, ρ 18, ρ 19, ρ 20, ρ 21, ρ 22, ρ 23, ρ 24, ρ 25, ρ 26, ρ 27, ρ 28, ρ 29, ρ 30, ρ 31, ρ 32, ρ 33, ρ 34, ρ 35, ρ 36, ρ 37, ρ 38, ρ 39, ρ 40, ρ 41, ρ 42, ρ 43, ρ 44, ρ 45, ρ 46, ρ 47, ρ 48, ρ 49], [dd]⟩ := fun dd => by kernel_rfl
      rw [ea]
      have hKD := hs3.block
      have hs7 := (hs3.put (.deferred none)).right
      have hk7 := (hk3.put D (.deferred none))
      have HR : RowKit.Hid (∀ w2, Sat w2 (arAt p A * R) → HRes A cur p R (.returned (.tuple #[.slice none 0 0, .slice none 0 0, .bool false])) w2) := fun w2 h => by
        unfold HRes
        rw [hch]
        exact ⟨rfl, h⟩
      have hs7 := Lib.hid hs7
      clear he ea hs3
      go_wp2
      refine ⟨by simp, .inl ⟨_, _, rfl, run_takeDeferred hKD, ?_⟩⟩
      exact ⟨_, results_tmp3 (t := 4) (u := 5) (v := 6) rfl _ _ _, hk7, HR.out _ hs7.out⟩
theorem hwds_perm {l m : List (Nat × List Nat)} (hp : l.Perm m) (hn : (l.map (·.1)).Nodup) : hwds l = hwds m := by
  funext h
  unfold hwds
  rw [find_perm hp hn h]
theorem chainF_perm {l m : List (Nat × List Nat)} (hp : l.Perm m) (hn : (l.map (·.1)).Nodup) : ∀ n, chainF l n = chainF m n
  | 0 => rfl
  | n + 1 => by
    funext c st
    unfold chainF
    unfold entE
    rw [hwds_perm hp hn, chainF_perm hp hn n]
/-- The entries behind a cursor. -/
def chain (A : Ar) (cur : Nat) : Option (List Ent) := chainF (blksQ A) 1001 cur []
theorem chain_all {A : Ar} (hi : ArInv A) (cur : Nat) : chainF (allOf A) 1001 cur [] = chain A cur := by
  unfold chain
  rw [chainF_perm (allOf_perm hi) (allOf_nodup hi)]

set_option maxHeartbeats 800000 in
set_option maxRecDepth 100000 in
theorem hlist_calls (p : Nat) (A : Ar) (cur : Nat) (w : World) {R : Assn} (H : Sat w (arAt p A * R)) (hr : cur < TW) (hl : A.s.back.length ≤ 70000) :
    Calls Try.prog 56 #[.pointer (some ⟨p, 0, none⟩), .int .u64 cur] w fun e w' => Kept w w' ∧
      ((chain A cur = none ∧ e = .returned (.tuple #[.slice none 0 0, .bool false]) ∧ Sat w' (arAt p A * R)) ∨
      (∃ l, chain A cur = some l ∧ ∃ v, e = .returned (.tuple #[v, .bool true]) ∧ Sat w' (rowK 119 3 v l.length (ecells l) * (arAt p A * R)))) := by
  have HT := hthrough_calls p A cur w H hr hl
  obtain ⟨_, _, hi, _⟩ := arAt_open H
  unfold HRes at HT
  rw [chain_all hi] at HT
  have HT := Lib.hid HT
  generalize chain A cur = C at *
  clear H
  go_enter Try.func56, Try.ntmps56
  go_wp2_with fail
  refine (HT.out).mono ?_; rintro e w1 ⟨hk, hres⟩
  cases C with
  | none =>
    obtain ⟨rfl, hs⟩ := hres
    have HS := Lib.hid hs
    clear hs
    go_wp2
    go_ret2
    first
      | exact ⟨hk, .inl ⟨rfl, rfl, HS.out⟩⟩
      | exact ⟨hk, rfl, HS.out⟩
      | (refine ⟨hk, ?_⟩; simp; exact HS.out)
  | some l =>
    obtain ⟨v1, v2, rfl, hs⟩ := hres
    have HS := Lib.hid hs
    clear hs
    go_wp2
    go_ret2
    first
      | exact ⟨hk, .inr ⟨l, rfl, v1, rfl, HS.out.swap.right⟩⟩
      | exact ⟨hk, l, rfl, v1, rfl, HS.out.swap.right⟩
      | exact ⟨hk, v1, rfl, HS.out.swap.right⟩

set_option maxHeartbeats 800000 in
set_option maxRecDepth 100000 in
theorem hhandles_calls (p : Nat) (A : Ar) (cur : Nat) (w : World) {R : Assn} (H : Sat w (arAt p A * R)) (hr : cur < TW) (hl : A.s.back.length ≤ 70000) :
    Calls Try.prog 57 #[.pointer (some ⟨p, 0, none⟩), .int .u64 cur] w fun e w' => Kept w w' ∧
      ((chain A cur = none ∧ e = .returned (.tuple #[.slice none 0 0, .bool false]) ∧ Sat w' (arAt p A * R)) ∨
      (∃ l, chain A cur = some l ∧ ∃ v, e = .returned (.tuple #[v, .bool true]) ∧ Sat w' (rowK 25 1 v l.length (ccells l) * (arAt p A * R)))) := by
  have HT := hthrough_calls p A cur w H hr hl
  obtain ⟨_, _, hi, _⟩ := arAt_open H
  unfold HRes at HT
  rw [chain_all hi] at HT
  have HT := Lib.hid HT
  generalize chain A cur = C at *
  clear H
  go_enter Try.func57, Try.ntmps57
  go_wp2_with fail
  refine (HT.out).mono ?_; rintro e w1 ⟨hk, hres⟩
  cases C with
  | none =>
    obtain ⟨rfl, hs⟩ := hres
    have HS := Lib.hid hs
    clear hs
    go_wp2
    go_ret2
    first
      | exact ⟨hk, .inl ⟨rfl, rfl, HS.out⟩⟩
      | exact ⟨hk, rfl, HS.out⟩
      | (refine ⟨hk, ?_⟩; simp; exact HS.out)
  | some l =>
    obtain ⟨v1, v2, rfl, hs⟩ := hres
    have HS := Lib.hid hs
    clear hs
    go_wp2
    go_ret2
    first
      | exact ⟨hk, .inr ⟨l, rfl, v2, rfl, HS.out.right⟩⟩
      | exact ⟨hk, l, rfl, v2, rfl, HS.out.right⟩
      | exact ⟨hk, v2, rfl, HS.out.right⟩
end Go.Proofs.Ytnfpkadepomjjaa
