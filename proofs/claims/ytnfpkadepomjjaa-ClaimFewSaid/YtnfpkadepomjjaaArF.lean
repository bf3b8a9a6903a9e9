/- The arena's Free and Size (layer 3). -/
import Derived.Test.YtnfpkadepomjjaaArG
import Derived.Test.YtnfpkadepomjjaaBaseLst
import Derived.Test.YtnfpkadepomjjaaBaseMap
set_option linter.all false
namespace Go.Proofs.Ytnfpkadepomjjaa
open Go.RowKit
set_option maxRecDepth 100000

def Ar.free (A : Ar) (b : Blk) : Ar := { A with used := A.used - b.ws.length, s := A.s.give b.n, bs := A.bs.eraseP (fun c => c.h == b.h), t := { A.t with frees := A.t.frees + 1 } }
theorem erase_mid {A : Ar} (hi : ArInv A) {l1 l2 : List Blk} {b : Blk} (hb : A.bs = l1 ++ b :: l2) : A.bs.eraseP (fun c => c.h == b.h) = l1 ++ l2 ∧ (∀ c ∈ l1, c.n ≠ b.n) := by
  have hn := hi.apart
  rw [hb] at hn
  simp only [List.map_append, List.map_cons, List.nodup_append, List.nodup_cons, List.mem_map, List.mem_cons] at hn
  have h1 : ∀ c ∈ l1, c.n ≠ b.n := fun c hc e => hn.2.2 c.n ⟨c, hc, rfl⟩ b.n (.inl rfl) e
  refine ⟨?_, h1⟩
  rw [hb, List.eraseP_append_right, List.eraseP_cons_of_pos (by simp)]
  intro c hc e
  have e : c.h = b.h := by simpa using e
  have := handle_inj hi (b := c) (b' := b) (by rw [hb]; simp [hc]) (by rw [hb]; simp) e
  exact h1 c hc (by rw [this])
theorem ArInv.free {A : Ar} (hi : ArInv A) {b : Blk} (hb : b ∈ A.bs) : ArInv (A.free b) := by
  obtain ⟨l1, l2, hl⟩ := List.append_of_mem hb
  obtain ⟨he, h1⟩ := erase_mid hi hl
  have hsub : ∀ c, c ∈ l1 ++ l2 → c ∈ A.bs := fun c hc => by
    rw [hl]
    simp only [List.mem_append, List.mem_cons] at hc ⊢
    rcases hc with h | h
    · exact .inl h
    · exact .inr (.inr h)
  have hsl : (l1 ++ l2).Sublist (l1 ++ b :: l2) := (List.Sublist.refl l1).append (List.sublist_cons_self b l2)
  have hs := hi.sum
  rw [hl] at hs
  simp only [List.map_append, List.map_cons, List.sum_append, List.sum_cons] at hs
  have hper : A.s.used.Perm (b.n :: (l1 ++ l2).map (·.n)) := by
    refine hi.nums.trans ?_
    rw [hl, List.map_append, List.map_cons, List.map_append]
    exact List.perm_middle
  have hnd : A.s.used.Nodup := hi.nums.nodup_iff.2 hi.apart
  have hmem : b.n ∈ A.s.used := hper.mem_iff.2 (by simp)
  have hnb : b.n ∉ A.s.back := fun h => (hi.backs _ h).2.2 hmem
  have hpp := pushH_perm A.s.back b.n
  have hrb := hi.range b hb
  have hpk := hi.peak
  have hus := hi.used
  refine { cap := hi.cap, used := ?_, peak := ?_, births := hi.births, fixed := hi.fixed, nums := ?_, range := ?_, words := ?_, apart := ?_, births' := ?_, sum := ?_, backs := ?_, high := ?_, bnd := ?_, hmax := hi.hmax }
  · simp only [Ar.free]; omega
  · simp only [Ar.free]; omega
  · simp only [Ar.free, Stk.give, he]
    have := hper.erase b.n
    rw [List.erase_cons_head] at this
    exact this
  · intro c hc
    simp only [Ar.free, he] at hc
    exact hi.range c (hsub c hc)
  · intro c hc
    simp only [Ar.free, he] at hc
    exact hi.words c (hsub c hc)
  · simp only [Ar.free, he]
    have := hi.apart
    rw [hl] at this
    exact this.sublist (hsl.map _)
  · simp only [Ar.free, he]
    have := hi.births'
    rw [hl] at this
    exact this.sublist (hsl.map _)
  · simp only [Ar.free, he, List.map_append, List.sum_append]
    omega
  · intro k hk
    simp only [Ar.free, Stk.give] at hk ⊢
    have hk := hpp.mem_iff.1 hk
    simp only [List.mem_append, List.mem_singleton] at hk
    rcases hk with hk | rfl
    · have := hi.backs k hk
      exact ⟨this.1, this.2.1, fun h => this.2.2 (List.mem_of_mem_erase h)⟩
    · exact ⟨hrb.1, hrb.2.1, hnd.not_mem_erase⟩
  · have hh := hi.high
    have hlen := hpp.length_eq
    simp only [Ar.free, Stk.give, he]
    rw [hl] at hh
    simp only [List.length_append, List.length_cons, List.length_nil] at hh hlen ⊢
    omega
  · simp only [Ar.free, Stk.give]
    refine hpp.nodup_iff.2 ?_
    rw [List.nodup_append]
    refine ⟨hi.bnd, by simp, ?_⟩
    intro a ha c hc e
    simp at hc
    subst hc e
    exact hnb ha
theorem del_ent : ∀ (l1 l2 : List Blk) (b : Blk), (∀ c ∈ l1, c.n ≠ b.n) → delL ((l1 ++ b :: l2).map ent) (b.n : Int) = (l1 ++ l2).map ent
  | [], l2, b, _ => by
    show (if (b.n : Int) = (b.n : Int) then _ else _) = _
    rw [if_pos rfl]
    rfl
  | a :: l1, l2, b, h => by
    show (if (a.n : Int) = (b.n : Int) then _ else ent a :: delL ((l1 ++ b :: l2).map ent) (b.n : Int)) = _
    rw [if_neg (fun e => h a (by simp) (by omega)), del_ent l1 l2 b fun c hc => h c (by simp [hc])]
    rfl
set_option maxHeartbeats 1600000 in
theorem free_yes (p h : Nat) (A : Ar) (b : Blk) (w : World) {R : Assn} (H : Sat w (arAt p A * R)) (hh : h < TW) (hf : A.find h = some b) :
    Calls Try.prog 75 #[.pointer (some ⟨p, 0, none⟩), .int .u64 h] w fun e w' => e = .returned (.int .i64 0) ∧ Sat w' (arAt p (A.free b) * R) ∧ Kept w w' := by
  obtain ⟨hbm, hbh⟩ := Ar.find_mem hf
  obtain ⟨ps, pb, hi, H1⟩ := arAt_open H
  have hsee := sees_of hi H1
  obtain ⟨g, n, c, hv⟩ := ar_slices H b hbm
  obtain ⟨l1, l2, hl⟩ := List.append_of_mem hbm
  obtain ⟨he, hne⟩ := erase_mid hi hl
  have hrg := hi.range b hbm
  have hvl : ∃ g', g = some ⟨g', 0, none⟩ ∧ n = b.ws.length := by
    have H2 := H1.cast (Q := rowAt 25 b.v (u64s b.ws) * (rowsAt (l1 ++ l2) * (own p (.cells (arCells A ps pb) 173 (0, 0)) * (stkAt ps A.s * (mapAt pb (A.bs.map ent) * R))))) (by rw [show rowsAt A.bs = rowAt 25 b.v (u64s b.ws) * rowsAt (l1 ++ l2) from by rw [hl]; exact rows_mid l1 l2 b]; ac_rfl)
    have hlen : (u64s b.ws).length = b.ws.length := by simp [u64s]
    rcases rowAt_open H2 with ⟨h3, h4, _⟩ | ⟨g', cap, cur, h3, _⟩
    · rw [h4] at hlen; simp at hlen; omega
    · rw [hv] at h3
      simp only [Value.slice.injEq] at h3
      exact ⟨g', h3.1, by omega⟩
  obtain ⟨g', rfl, rfl⟩ := hvl
  have HF := Lib.hid (find_yes p h g' _ c A b w hsee hh hf hv)
  have hmod : (h : Int) % 65536 = (b.n : Int) := by omega
  have HB : RowKit.Hid (∀ w, Calls Try.prog 151 #[.int .u64 h] w fun e w' => e = .returned (.int .u64 (b.n : Int)) ∧ w = w') := by
    intro w
    have := block_any h w hh
    rw [← hmod]
    exact this
  have hbk : A.s.back.length < 100000 := by have := hi.high; have := hi.hmax; omega
  have hused : b.n ∈ A.s.used := hi.nums.mem_iff.2 (List.mem_map.2 ⟨b, hbm, rfl⟩)
  -- behind the deletion
  have HD : RowKit.Hid (∀ w1, Below w.heap.size w w1 → w1.cell? ⟨p, 7, none⟩ = some (.int .u64 (A.fixed 2)) ∧ w1.cell? ⟨p, 15, none⟩ = some (.map (some pb)) ∧ ∃ w2, (∀ ty, (Builtin.delete_ #[171, 3] ty #[.map (some pb), .int .i64 (b.n : Int)]).run Try.prog w1 = .ok (.tuple #[]) w2) ∧ w2.cell? ⟨p, 14, none⟩ = some (.pointer (some ⟨ps, 0, none⟩)) ∧
      Sat w2 (stkAt ps A.s * (own p (.cells (arCells A ps pb) 173 (0, 0)) * (mapAt pb ((l1 ++ l2).map ent) * (rowsAt (l1 ++ l2) * R)))) ∧ Kept w w2) := by
    intro w1 hb1
    have H2 := H1.below hb1
    refine ⟨H2.cell 7, H2.cell 15, ?_⟩
    have H3 := H2.cast (Q := mapG false pb (A.bs.map ent) * (own p (.cells (arCells A ps pb) 173 (0, 0)) * (stkAt ps A.s * (rowsAt A.bs * R)))) (by show _ = mapAt pb _ * _; ac_rfl)
    obtain ⟨w2, hr, hs2, hk2⟩ := mapG_delete (P := Try.prog) (k' := 3) (ty := 0) H3 ((Kept.refl w).below hb1) Try.underlying171 Try.underlying3 (b.n : Int)
    rw [hl, del_ent l1 l2 b hne, rows_mid] at hs2
    have hs3 : Sat w2 (rowAt 25 b.v (u64s b.ws) * (stkAt ps A.s * (own p (.cells (arCells A ps pb) 173 (0, 0)) * (mapAt pb ((l1 ++ l2).map ent) * (rowsAt (l1 ++ l2) * R))))) := hs2.cast (by show mapAt pb _ * _ = _; ac_rfl)
    refine ⟨w2, fun ty => ?_, hs3.right.swap.cell 14, hs3.right, hk2⟩
    exact hr
  have HG := Lib.hid (fun w2 (hs : Sat w2 (stkAt ps A.s * (own p (.cells (arCells A ps pb) 173 (0, 0)) * (mapAt pb ((l1 ++ l2).map ent) * (rowsAt (l1 ++ l2) * R))))) => stk_give ps A.s b.n w2 hs hused hbk)
  have Hinv := Lib.hid (hi.free hbm)
  have hus := hi.used
  have hcap := hi.cap
  have hsum : b.ws.length ≤ A.used := by
    have := hi.sum
    rw [hl] at this
    simp only [List.map_append, List.map_cons, List.sum_append, List.sum_cons] at this
    omega
  have HX : RowKit.Hid (∀ w3, Sat w3 (stkAt ps (A.s.give b.n) * (own p (.cells (arCells A ps pb) 173 (0, 0)) * (mapAt pb ((l1 ++ l2).map ent) * (rowsAt (l1 ++ l2) * R)))) →
      w3.cell? ⟨p, 1, none⟩ = some (.int .i64 A.used) ∧ w3.cell? ⟨p, 17, none⟩ = some (.int .i64 (wr64 A.t.frees)) ∧ w3.frozen? ⟨p, 1, none⟩ = false ∧ w3.frozen? ⟨p, 17, none⟩ = false ∧
      Sat ((w3.setCell ⟨p, 1, none⟩ (.int .i64 ((A.used : Int) - (b.ws.length : Int)))).setCell ⟨p, 17, none⟩ (.int .i64 (wrap64 (wr64 A.t.frees + 1)))) (arAt p (A.free b) * R)) := by
    intro w3 hs
    have hs' := hs.swap
    refine ⟨hs'.cell 1, hs'.cell 17, hs'.free 1, hs'.free 17, ?_⟩
    have S1 := (hs'.set 1 (.int .i64 ((A.used : Int) - (b.ws.length : Int)))).set 17 (.int .i64 (wrap64 (wr64 A.t.frees + 1)))
    refine arAt_shut (ps := ps) (pb := pb) Hinv.out (S1.cast ?_)
    have t3 : arCells (A.free b) ps pb = ((arCells A ps pb).setIfInBounds 1 (.int .i64 ((A.used : Int) - (b.ws.length : Int)))).setIfInBounds 17 (.int .i64 (wrap64 (wr64 A.t.frees + 1))) := by
      rw [wr64_succ, show (A.used : Int) - (b.ws.length : Int) = ((A.used - b.ws.length : Nat) : Int) by omega]
      simp [arCells, Ar.free]
    rw [t3, show (A.free b).bs = l1 ++ l2 from he, show (A.free b).s = A.s.give b.n from rfl]
  have hmx := hi.hmax
  have hw64 : wrap64 (b.n : Int) = (b.n : Int) := by unfold wrap64; omega
  clear hmx
  generalize hblen : b.ws.length = m at *
  clear H H1 hi hsee hf he hne hl hv hmod hused hrg
  go_enter Try.func75, Try.ntmps75
  go_wp2_with fail
  refine (HF.out).mono ?_; rintro e w1 ⟨rfl, hb1⟩
  obtain ⟨_, k15, w2, hdel, k14, hs2, hk2⟩ := HD.out w1 hb1
  have Hs2 := Lib.hid hs2
  have Hk2 := Lib.hid hk2
  clear hs2 hk2 hb1 HF HD
  go_wp2_with fail
  refine (HB.out _).mono ?_; rintro e w1' ⟨rfl, rfl⟩
  go_wp2_with fail
  refine (HG.out w2 Hs2.out).mono ?_; rintro e w3 ⟨rfl, hs3, hk3⟩
  obtain ⟨c1, c17, z1, z17, hS⟩ := HX.out w3 hs3
  have HS := Lib.hid hS
  clear hS hs3 HG HX Hs2
  go_wp2
  go_ret
  exact ⟨rfl, HS.out, ((Hk2.out.trans hk3).setCell _ _).setCell _ _⟩
theorem free_none (p h : Nat) (A : Ar) (w : World) {R : Assn} (H : Sat w (arAt p A * R)) (hh : h < TW) (hf : A.find h = none) :
    Calls Try.prog 75 #[.pointer (some ⟨p, 0, none⟩), .int .u64 h] w fun e w' => e = .returned (.int .i64 23) ∧ Sat w' (arAt p A.fault * R) ∧ Kept w w' := by
  obtain ⟨ps, pb, hi, H1⟩ := arAt_open H
  have hsee := sees_of hi H1
  have HF := Lib.hid (find_none p h A w hsee (ar_slices H) hh hf)
  have HS : RowKit.Hid (∀ w1, Below w.heap.size w w1 → Calls Try.prog 150 #[.pointer (some ⟨p, 0, none⟩), .int .i64 23] w1 fun e w' => e = .returned (.int .i64 23) ∧ Sat w' (arAt p A.fault * R) ∧ Kept w1 w') := fun w1 hb => fault_any p 23 A w1 (H.below hb)
  have HK : RowKit.Hid (∀ w1 w2, Below w.heap.size w w1 → Kept w1 w2 → Kept w w2) := fun w1 w2 hb hk => ((Kept.refl w).below hb).trans hk
  clear H H1 hi hsee hf
  go_enter Try.func75, Try.ntmps75
  go_wp2_with fail
  refine (HF.out).mono ?_; rintro e w1 ⟨rfl, hb1⟩
  go_wp2_with fail
  refine (HS.out w1 hb1).mono ?_; rintro e w2 ⟨rfl, hs2, hk2⟩
  have hk3 := HK.out w1 w2 hb1 hk2
  have Hs2 := Lib.hid hs2
  clear hs2 hk2 hb1
  go_wp2
  go_ret
  exact ⟨rfl, Hs2.out, hk3⟩
theorem size_any (p h : Nat) (A : Ar) (w : World) {R : Assn} (H : Sat w (arAt p A * R)) (hh : h < TW) :
    Calls Try.prog 80 #[.pointer (some ⟨p, 0, none⟩), .int .u64 h] w fun e w' => e = .returned (.int .i64 (((A.find h).map fun b => b.ws.length).getD 0 : Nat)) ∧ Below w.heap.size w w' := by
  obtain ⟨ps, pb, hi, H1⟩ := arAt_open H
  have hsee := sees_of hi H1
  have hsl := ar_slices H
  cases hf : A.find h with
  | none =>
    have HF := Lib.hid (find_none p h A w hsee hsl hh hf)
    clear H H1 hi hsee hf hsl
    simp only [Option.map_none, Option.getD_none]
    go_enter Try.func80, Try.ntmps80
    go_wp2_with fail
    refine (HF.out).mono ?_; rintro e w1 ⟨rfl, hb1⟩
    go_wp2
    go_ret
    exact ⟨rfl, hb1⟩
  | some b =>
    obtain ⟨hbm, hbh⟩ := Ar.find_mem hf
    obtain ⟨ps, pb, l1, l2, g, c, cur, _, hl, hv, _⟩ := ar_block H hbm
    have HF := Lib.hid (find_yes p h g _ c A b w hsee hh hf hv)
    simp only [Option.map_some, Option.getD_some]
    generalize b.ws.length = m at *
    clear H H1 hi hsee hf hsl
    go_enter Try.func80, Try.ntmps80
    go_wp2_with fail
    refine (HF.out).mono ?_; rintro e w1 ⟨rfl, hb1⟩
    go_wp2
    go_ret
    exact ⟨rfl, hb1⟩
end Go.Proofs.Ytnfpkadepomjjaa
