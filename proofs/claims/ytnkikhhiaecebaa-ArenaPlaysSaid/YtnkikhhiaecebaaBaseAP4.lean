/- What an arena tells of itself: how many words are in use, its peak, its capacity. -/
import Derived.Test.YtnkikhhiaecebaaBasePar
import Derived.Test.YtnkikhhiaecebaaBaseAP3
import Derived.Test.YtnkikhhiaecebaaBaseLst
import Derived.Test.YtnkikhhiaecebaaBaseMap
import Derived.Test.YtnkikhhiaecebaaBaseS
import Derived.TacticsInMore
import Derived.RegionIn
import Derived.BigRegionIn
import Derived.OwnWalkIn
import Derived.LoopNIn
import Derived.LoopIn
import Derived.Shelf.Abstract
import Derived.RangeFuncLeaves
import Derived.RangeFuncBound
import Derived.Test.YtnkikhhiaecebaaBaseAll
import Derived.Test.YtnkikhhiaecebaaBaseB
import Derived.Test.YtnkikhhiaecebaaBaseC
import Derived.Test.YtnkikhhiaecebaaBaseDoc
set_option linter.all false
namespace Go.Proofs.Ytnkikhhiaecebaa
open Go Go.RowKit
theorem ar_used (p : Nat) (A : Ar) (w : World) {R : Assn} (H : Sat w (arAt p A * R)) :
    Calls Try.prog 21 #[.pointer (some ⟨p, 0, none⟩)] w fun e w' => e = .returned (.int .i64 A.used) ∧ w = w' := by
  obtain ⟨ps, pb, _, H1⟩ := arAt_open H
  have hc := H1.cell 1
  simp [arCells] at hc
  clear H H1
  go_enter Try.func21, Try.ntmps21
  go_wp2
  go_ret
  exact ⟨rfl, rfl⟩
end Go.Proofs.Ytnkikhhiaecebaa

/- The arena's Free and Size (layer 3). -/
namespace Go.Proofs.Ytnkikhhiaecebaa
open Go.RowKit
set_option maxRecDepth 100000

def Ar.free (A : Ar) (b : Blk) : Ar := { A with used := A.used - b.ws.length, s := A.s.give b.n, bs := A.bs.eraseP (fun c => c.h == b.h), t := { A.t with frees := A.t.frees + 1 } }
theorem erase_mid {A : Ar} (hi : ArInv A) {l1 l2 : List Blk} {b : Blk} (hb : A.bs = l1 ++ b :: l2) : A.bs.eraseP (fun c => c.h == b.h) = l1 ++ l2 ∧ (∀ c ∈ l1, c.n ≠ b.n) := by
  have hn := hi.apart
  rw [hb] at hn
  simp only [List.map_append, List.map_cons, List.nodup_append, List.nodup_cons, List.mem_map, List.mem_cons] at hn
  have h1 : ∀ c ∈ l1, c.n ≠ b.n := fun c hc e => hn.2.2 c.n ⟨c, hc, rfl⟩ b.n (.inl rfl) e
  refine ⟨?_, h1⟩
  rw [hb, List.eraseP_append_right, List.eraseP_cons_of_pos (by simp)]
  intro c hc e
  have e : c.h = b.h := by simpa using e
  have := handle_inj hi (b := c) (b' := b) (by rw [hb]; simp [hc]) (by rw [hb]; simp) e
  exact h1 c hc (by rw [this])
theorem ArInv.free {A : Ar} (hi : ArInv A) {b : Blk} (hb : b ∈ A.bs) : ArInv (A.free b) := by
  obtain ⟨l1, l2, hl⟩ := List.append_of_mem hb
  obtain ⟨he, h1⟩ := erase_mid hi hl
  have hsub : ∀ c, c ∈ l1 ++ l2 → c ∈ A.bs := fun c hc => by
    rw [hl]
    simp only [List.mem_append, List.mem_cons] at hc ⊢
    rcases hc with h | h
    · exact .inl h
    · exact .inr (.inr h)
  have hsl : (l1 ++ l2).Sublist (l1 ++ b :: l2) := (List.Sublist.refl l1).append (List.sublist_cons_self b l2)
  have hs := hi.sum
  rw [hl] at hs
  simp only [List.map_append, List.map_cons, List.sum_append, List.sum_cons] at hs
  have hper : A.s.used.Perm (b.n :: (l1 ++ l2).map (·.n)) := by
    refine hi.nums.trans ?_
    rw [hl, List.map_append, List.map_cons, List.map_append]
    exact List.perm_middle
  have hnd : A.s.used.Nodup := hi.nums.nodup_iff.2 hi.apart
  have hmem : b.n ∈ A.s.used := hper.mem_iff.2 (by simp)
  have hnb : b.n ∉ A.s.back := fun h => (hi.backs _ h).2.2 hmem
  have hpp := pushH_perm A.s.back b.n
  have hrb := hi.range b hb
  have hpk := hi.peak
  have hus := hi.used
  refine { cap := hi.cap, used := ?_, peak := ?_, births := hi.births, fixed := hi.fixed, nums := ?_, range := ?_, words := ?_, apart := ?_, births' := ?_, sum := ?_, backs := ?_, high := ?_, bnd := ?_, hmax := hi.hmax }
  · simp only [Ar.free]; omega
  · simp only [Ar.free]; omega
  · simp only [Ar.free, Stk.give, he]
    have := hper.erase b.n
    rw [List.erase_cons_head] at this
    exact this
  · intro c hc
    simp only [Ar.free, he] at hc
    exact hi.range c (hsub c hc)
  · intro c hc
    simp only [Ar.free, he] at hc
    exact hi.words c (hsub c hc)
  · simp only [Ar.free, he]
    have := hi.apart
    rw [hl] at this
    exact this.sublist (hsl.map _)
  · simp only [Ar.free, he]
    have := hi.births'
    rw [hl] at this
    exact this.sublist (hsl.map _)
  · simp only [Ar.free, he, List.map_append, List.sum_append]
    omega
  · intro k hk
    simp only [Ar.free, Stk.give] at hk ⊢
    have hk := hpp.mem_iff.1 hk
    simp only [List.mem_append, List.mem_singleton] at hk
    rcases hk with hk | rfl
    · have := hi.backs k hk
      exact ⟨this.1, this.2.1, fun h => this.2.2 (List.mem_of_mem_erase h)⟩
    · exact ⟨hrb.1, hrb.2.1, hnd.not_mem_erase⟩
  · have hh := hi.high
    have hlen := hpp.length_eq
    simp only [Ar.free, Stk.give, he]
    rw [hl] at hh
    simp only [List.length_append, List.length_cons, List.length_nil] at hh hlen ⊢
    omega
  · simp only [Ar.free, Stk.give]
    refine hpp.nodup_iff.2 ?_
    rw [List.nodup_append]
    refine ⟨hi.bnd, by simp, ?_⟩
    intro a ha c hc e
    simp at hc
    subst hc e
    exact hnb ha
theorem del_ent : ∀ (l1 l2 : List Blk) (b : Blk), (∀ c ∈ l1, c.n ≠ b.n) → delL ((l1 ++ b :: l2).map ent) (b.n : Int) = (l1 ++ l2).map ent
  | [], l2, b, _ => by
    show (if (b.n : Int) = (b.n : Int) then _ else _) = _
    rw [if_pos rfl]
    rfl
  | a :: l1, l2, b, h => by
    show (if (a.n : Int) = (b.n : Int) then _ else ent a :: delL ((l1 ++ b :: l2).map ent) (b.n : Int)) = _
    rw [if_neg (fun e => h a (by simp) (by omega)), del_ent l1 l2 b fun c hc => h c (by simp [hc])]
    rfl
set_option maxHeartbeats 1600000 in
theorem free_yes (p h : Nat) (A : Ar) (b : Blk) (w : World) {R : Assn} (H : Sat w (arAt p A * R)) (hh : h < TW) (hf : A.find h = some b) :
    Calls Try.prog 18 #[.pointer (some ⟨p, 0, none⟩), .int .u64 h] w fun e w' => e = .returned (.int .i64 0) ∧ Sat w' (arAt p (A.free b) * R) ∧ Kept w w' := by
  obtain ⟨hbm, hbh⟩ := Ar.find_mem hf
  obtain ⟨ps, pb, hi, H1⟩ := arAt_open H
  have hsee := sees_of hi H1
  obtain ⟨g, n, c, hv⟩ := ar_slices H b hbm
  obtain ⟨l1, l2, hl⟩ := List.append_of_mem hbm
  obtain ⟨he, hne⟩ := erase_mid hi hl
  have hrg := hi.range b hbm
  have hvl : ∃ g', g = some ⟨g', 0, none⟩ ∧ n = b.ws.length := by
    have H2 := H1.cast (Q := rowAt 29 b.v (u64s b.ws) * (rowsAt (l1 ++ l2) * (own p (.cells (arCells A ps pb) 172 (0, 0)) * (stkAt ps A.s * (mapAt pb (A.bs.map ent) * R))))) (by rw [show rowsAt A.bs = rowAt 29 b.v (u64s b.ws) * rowsAt (l1 ++ l2) from by rw [hl]; exact rows_mid l1 l2 b]; ac_rfl)
    have hlen : (u64s b.ws).length = b.ws.length := by simp [u64s]
    rcases rowAt_open H2 with ⟨h3, h4, _⟩ | ⟨g', cap, cur, h3, _⟩
    · rw [h4] at hlen; simp at hlen; omega
    · rw [hv] at h3
      simp only [Value.slice.injEq] at h3
      exact ⟨g', h3.1, by omega⟩
  obtain ⟨g', rfl, rfl⟩ := hvl
  have HF := Lib.hid (find_yes p h g' _ c A b w hsee hh hf hv)
  have hmod : (h : Int) % 65536 = (b.n : Int) := by omega
  have HB : RowKit.Hid (∀ w, Calls Try.prog 95 #[.int .u64 h] w fun e w' => e = .returned (.int .u64 (b.n : Int)) ∧ w = w') := by
    intro w
    have := block_any h w hh
    rw [← hmod]
    exact this
  have hbk : A.s.back.length < 100000 := by have := hi.high; have := hi.hmax; omega
  have hused : b.n ∈ A.s.used := hi.nums.mem_iff.2 (List.mem_map.2 ⟨b, hbm, rfl⟩)
  -- behind the deletion
  have HD : RowKit.Hid (∀ w1, Below w.heap.size w w1 → w1.cell? ⟨p, 7, none⟩ = some (.int .u64 (A.fixed 2)) ∧ w1.cell? ⟨p, 15, none⟩ = some (.map (some pb)) ∧ ∃ w2, (∀ ty, (Builtin.delete_ #[170, 3] ty #[.map (some pb), .int .i64 (b.n : Int)]).run Try.prog w1 = .ok (.tuple #[]) w2) ∧ w2.cell? ⟨p, 14, none⟩ = some (.pointer (some ⟨ps, 0, none⟩)) ∧
      Sat w2 (stkAt ps A.s * (own p (.cells (arCells A ps pb) 172 (0, 0)) * (mapAt pb ((l1 ++ l2).map ent) * (rowsAt (l1 ++ l2) * R)))) ∧ Kept w w2) := by
    intro w1 hb1
    have H2 := H1.below hb1
    refine ⟨H2.cell 7, H2.cell 15, ?_⟩
    have H3 := H2.cast (Q := mapG false pb (A.bs.map ent) * (own p (.cells (arCells A ps pb) 172 (0, 0)) * (stkAt ps A.s * (rowsAt A.bs * R)))) (by show _ = mapAt pb _ * _; ac_rfl)
    obtain ⟨w2, hr, hs2, hk2⟩ := mapG_delete (P := Try.prog) (k' := 3) (ty := 0) H3 ((Kept.refl w).below hb1) Try.underlying170 Try.underlying3 (b.n : Int)
    rw [hl, del_ent l1 l2 b hne, rows_mid] at hs2
    have hs3 : Sat w2 (rowAt 29 b.v (u64s b.ws) * (stkAt ps A.s * (own p (.cells (arCells A ps pb) 172 (0, 0)) * (mapAt pb ((l1 ++ l2).map ent) * (rowsAt (l1 ++ l2) * R))))) := hs2.cast (by show mapAt pb _ * _ = _; ac_rfl)
    refine ⟨w2, fun ty => ?_, hs3.right.swap.cell 14, hs3.right, hk2⟩
    exact hr
  have HG := Lib.hid (fun w2 (hs : Sat w2 (stkAt ps A.s * (own p (.cells (arCells A ps pb) 172 (0, 0)) * (mapAt pb ((l1 ++ l2).map ent) * (rowsAt (l1 ++ l2) * R))))) => stk_give ps A.s b.n w2 hs hused hbk)
  have Hinv := Lib.hid (hi.free hbm)
  have hus := hi.used
  have hcap := hi.cap
  have hsum : b.ws.length ≤ A.used := by
    have := hi.sum
    rw [hl] at this
    simp only [List.map_append, List.map_cons, List.sum_append, List.sum_cons] at this
    omega
  have HX : RowKit.Hid (∀ w3, Sat w3 (stkAt ps (A.s.give b.n) * (own p (.cells (arCells A ps pb) 172 (0, 0)) * (mapAt pb ((l1 ++ l2).map ent) * (rowsAt (l1 ++ l2) * R)))) →
      w3.cell? ⟨p, 1, none⟩ = some (.int .i64 A.used) ∧ w3.cell? ⟨p, 17, none⟩ = some (.int .i64 (wr64 A.t.frees)) ∧ w3.frozen? ⟨p, 1, none⟩ = false ∧ w3.frozen? ⟨p, 17, none⟩ = false ∧
      Sat ((w3.setCell ⟨p, 1, none⟩ (.int .i64 ((A.used : Int) - (b.ws.length : Int)))).setCell ⟨p, 17, none⟩ (.int .i64 (wrap64 (wr64 A.t.frees + 1)))) (arAt p (A.free b) * R)) := by
    intro w3 hs
    have hs' := hs.swap
    refine ⟨hs'.cell 1, hs'.cell 17, hs'.free 1, hs'.free 17, ?_⟩
    have S1 := (hs'.set 1 (.int .i64 ((A.used : Int) - (b.ws.length : Int)))).set 17 (.int .i64 (wrap64 (wr64 A.t.frees + 1)))
    refine arAt_shut (ps := ps) (pb := pb) Hinv.out (S1.cast ?_)
    have t3 : arCells (A.free b) ps pb = ((arCells A ps pb).setIfInBounds 1 (.int .i64 ((A.used : Int) - (b.ws.length : Int)))).setIfInBounds 17 (.int .i64 (wrap64 (wr64 A.t.frees + 1))) := by
      rw [wr64_succ, show (A.used : Int) - (b.ws.length : Int) = ((A.used - b.ws.length : Nat) : Int) by omega]
      simp [arCells, Ar.free]
    rw [t3, show (A.free b).bs = l1 ++ l2 from he, show (A.free b).s = A.s.give b.n from rfl]
  have hmx := hi.hmax
  have hw64 : wrap64 (b.n : Int) = (b.n : Int) := by unfold wrap64; omega
  clear hmx
  generalize hblen : b.ws.length = m at *
  clear H H1 hi hsee hf he hne hl hv hmod hused hrg
  go_enter Try.func18, Try.ntmps18
  go_wp2_with fail
  refine (HF.out).mono ?_; rintro e w1 ⟨rfl, hb1⟩
  obtain ⟨_, k15, w2, hdel, k14, hs2, hk2⟩ := HD.out w1 hb1
  have Hs2 := Lib.hid hs2
  have Hk2 := Lib.hid hk2
  clear hs2 hk2 hb1 HF HD
  go_wp2_with fail
  refine (HB.out _).mono ?_; rintro e w1' ⟨rfl, rfl⟩
  go_wp2_with fail
  refine (HG.out w2 Hs2.out).mono ?_; rintro e w3 ⟨rfl, hs3, hk3⟩
  obtain ⟨c1, c17, z1, z17, hS⟩ := HX.out w3 hs3
  have HS := Lib.hid hS
  clear hS hs3 HG HX Hs2
  go_wp2
  go_ret
  exact ⟨rfl, HS.out, ((Hk2.out.trans hk3).setCell _ _).setCell _ _⟩
theorem free_none (p h : Nat) (A : Ar) (w : World) {R : Assn} (H : Sat w (arAt p A * R)) (hh : h < TW) (hf : A.find h = none) :
    Calls Try.prog 18 #[.pointer (some ⟨p, 0, none⟩), .int .u64 h] w fun e w' => e = .returned (.int .i64 23) ∧ Sat w' (arAt p A.fault * R) ∧ Kept w w' := by
  obtain ⟨ps, pb, hi, H1⟩ := arAt_open H
  have hsee := sees_of hi H1
  have HF := Lib.hid (find_none p h A w hsee (ar_slices H) hh hf)
  have HS : RowKit.Hid (∀ w1, Below w.heap.size w w1 → Calls Try.prog 94 #[.pointer (some ⟨p, 0, none⟩), .int .i64 23] w1 fun e w' => e = .returned (.int .i64 23) ∧ Sat w' (arAt p A.fault * R) ∧ Kept w1 w') := fun w1 hb => fault_any p 23 A w1 (H.below hb)
  have HK : RowKit.Hid (∀ w1 w2, Below w.heap.size w w1 → Kept w1 w2 → Kept w w2) := fun w1 w2 hb hk => ((Kept.refl w).below hb).trans hk
  clear H H1 hi hsee hf
  go_enter Try.func18, Try.ntmps18
  go_wp2_with fail
  refine (HF.out).mono ?_; rintro e w1 ⟨rfl, hb1⟩
  go_wp2_with fail
  refine (HS.out w1 hb1).mono ?_; rintro e w2 ⟨rfl, hs2, hk2⟩
  have hk3 := HK.out w1 w2 hb1 hk2
  have Hs2 := Lib.hid hs2
  clear hs2 hk2 hb1
  go_wp2
  go_ret
  exact ⟨rfl, Hs2.out, hk3⟩
theorem size_any (p h : Nat) (A : Ar) (w : World) {R : Assn} (H : Sat w (arAt p A * R)) (hh : h < TW) :
    Calls Try.prog 25 #[.pointer (some ⟨p, 0, none⟩), .int .u64 h] w fun e w' => e = .returned (.int .i64 (((A.find h).map fun b => b.ws.length).getD 0 : Nat)) ∧ Below w.heap.size w w' := by
  obtain ⟨ps, pb, hi, H1⟩ := arAt_open H
  have hsee := sees_of hi H1
  have hsl := ar_slices H
  cases hf : A.find h with
  | none =>
    have HF := Lib.hid (find_none p h A w hsee hsl hh hf)
    clear H H1 hi hsee hf hsl
    simp only [Option.map_none, Option.getD_none]
    go_enter Try.func25, Try.ntmps25
    go_wp2_with fail
    refine (HF.out).mono ?_; rintro e w1 ⟨rfl, hb1⟩
    go_wp2
    go_ret
    exact ⟨rfl, hb1⟩
  | some b =>
    obtain ⟨hbm, hbh⟩ := Ar.find_mem hf
    obtain ⟨ps, pb, l1, l2, g, c, cur, _, hl, hv, _⟩ := ar_block H hbm
    have HF := Lib.hid (find_yes p h g _ c A b w hsee hh hf hv)
    simp only [Option.map_some, Option.getD_some]
    generalize b.ws.length = m at *
    clear H H1 hi hsee hf hsl
    go_enter Try.func25, Try.ntmps25
    go_wp2_with fail
    refine (HF.out).mono ?_; rintro e w1 ⟨rfl, hb1⟩
    go_wp2
    go_ret
    exact ⟨rfl, hb1⟩
end Go.Proofs.Ytnkikhhiaecebaa

/- arena.Lay, whatever was freed (layer 3). -/
namespace Go.Proofs.Ytnkikhhiaecebaa
open Go.RowKit
set_option maxRecDepth 100000

def hdlG (A : Ar) : Nat := (A.births + 1) * 65536 + A.s.next
def Ar.layG (A : Ar) (ws : List Nat) (v : Value) : Ar :=
  { A with used := A.used + ws.length, peak := max A.peak (A.used + ws.length), births := A.births + 1, s := A.s.takeG, bs := A.bs ++ [⟨A.s.next, hdlG A, ws, v⟩], t := { A.t with lays := A.t.lays + 1 } }
theorem ArInv.next {A : Ar} (hi : ArInv A) (hc : A.used < A.cap) : 0 < A.s.next ∧ A.s.next ≤ 60000 ∧ A.s.next ∉ A.s.used ∧ (A.s.back = [] → A.s.high < 60000) := by
  have hcap := hi.cap
  have hm := hi.hmax
  unfold Stk.next
  cases hb : A.s.back with
  | nil =>
    have hh := hi.high_le hb
    exact ⟨Nat.succ_pos _, by simp only []; omega, hi.fresh, fun _ => by omega⟩
  | cons a l =>
    have h := hi.backs a (by rw [hb]; simp)
    exact ⟨h.1, by simp only []; omega, h.2.2, fun e => by cases e⟩
theorem ArInv.layG {A : Ar} (hi : ArInv A) {ws : List Nat} (v : Value) (h1 : 1 ≤ ws.length) (h2 : ws.length ≤ 2048) (hc : A.used + ws.length ≤ A.cap) (hbi : A.births < 268435455) (hw : ∀ x ∈ ws, x < TW) : ArInv (A.layG ws v) := by
  obtain ⟨n1, n2, n3, n4⟩ := hi.next (by omega)
  have hcap := hi.cap
  have hp := hi.peak
  have hhm := hi.hmax
  have hS : A.s.takeG.used = A.s.used ++ [A.s.next] ∧ A.s.high ≤ A.s.takeG.high ∧ A.s.next ≤ A.s.takeG.high ∧ A.s.takeG.high ≤ 60000 ∧ (∀ k ∈ A.s.takeG.back, k ∈ A.s.back ∧ k ≠ A.s.next) ∧ A.s.takeG.back.Nodup ∧ A.s.takeG.high + A.s.back.length = A.s.high + A.s.takeG.back.length + 1 := by
    unfold Stk.takeG Stk.next
    have hbn := hi.bnd
    cases hb : A.s.back with
    | nil =>
      have := n4 hb
      simp [Stk.take, hb]
      omega
    | cons a l =>
      have h := hi.backs a (by rw [hb]; simp)
      have hpp := popH_perm (a := a) (l := l)
      rw [hb] at hbn
      have hnd := hpp.nodup_iff.2 hbn
      rw [List.nodup_cons] at hnd
      refine ⟨rfl, Nat.le_refl _, h.2.1, hhm, ?_, hnd.2, ?_⟩
      · intro k hk
        refine ⟨hpp.mem_iff.1 (List.mem_cons_of_mem _ hk), fun e => by subst e; exact hnd.1 hk⟩
      · simp only [popH_len, List.length_cons]
        omega
  obtain ⟨s1, s2, s3, s4, s5, s6, s7⟩ := hS
  refine { cap := hi.cap, used := hc, peak := ⟨Nat.le_max_right _ _, Nat.max_le.2 ⟨hp.2, hc⟩⟩, births := hbi, fixed := hi.fixed, nums := ?_, range := ?_, words := ?_, apart := ?_, births' := ?_, sum := ?_, backs := ?_, high := ?_, bnd := s6, hmax := s4 }
  · show A.s.takeG.used.Perm ((A.bs ++ [_]).map _)
    rw [s1, List.map_append]
    exact hi.nums.append_right _
  · intro b hm
    simp only [Ar.layG, List.mem_append, List.mem_singleton] at hm
    simp only [Ar.layG]
    rcases hm with hm | rfl
    · have := hi.range b hm
      omega
    · simp only [hdlG]
      omega
  · intro b hm
    simp only [Ar.layG, List.mem_append, List.mem_singleton] at hm
    rcases hm with hm | rfl
    · exact hi.words b hm
    · exact hw
  · simp only [Ar.layG, List.map_append, List.map_cons, List.map_nil]
    rw [List.nodup_append]
    refine ⟨hi.apart, by simp, ?_⟩
    intro a ha b hb' e
    simp at hb'
    subst hb' e
    exact n3 (hi.nums.mem_iff.2 ha)
  · simp only [Ar.layG, List.map_append, List.map_cons, List.map_nil]
    rw [List.nodup_append]
    refine ⟨hi.births', by simp, ?_⟩
    intro a ha b hb' e
    simp [hdlG] at hb'
    obtain ⟨c, hc', rfl⟩ := List.mem_map.1 ha
    have := (hi.range c hc').2.2.2.2.1
    omega
  · simp [Ar.layG, hi.sum]
  · intro k hk
    have h5 := s5 k hk
    have h6 := hi.backs k h5.1
    refine ⟨h6.1, Nat.le_trans h6.2.1 s2, ?_⟩
    show k ∉ A.s.takeG.used
    rw [s1]
    simp only [List.mem_append, List.mem_singleton, not_or]
    exact ⟨h6.2.2, h5.2⟩
  · have := hi.high
    simp only [Ar.layG, List.length_append, List.length_cons, List.length_nil]
    omega
set_option maxHeartbeats 1600000 in
set_option maxRecDepth 20000 in
theorem lay_gen (p : Nat) (A : Ar) (ws : List Nat) (m : Nat) (hm : ws.length = m) (g : Addr) (cap : Nat) (w : World) {Q R : Assn} (H : Sat w (arAt p A * (Q * R))) (hQ : ∀ w R, Sat w (Q * R) → g.block < w.heap.size ∧ ∀ j u, (u64s ws)[j]? = some u → w.cell? (g.add j) = some u) (h1 : 1 ≤ ws.length) (h2 : ws.length ≤ 2048) (hc : A.used + ws.length ≤ A.cap)
    (hbi : A.births < 268435455) (hw : ∀ x ∈ ws, x < TW) :
    Calls Try.prog 14 #[.pointer (some ⟨p, 0, none⟩), .slice (some g) m cap] w fun e w' => e = .returned (.tuple #[.int .u64 (hdlG A : Nat), .int .i64 0]) ∧
      (∃ v', Sat w' (arAt p (A.layG ws v') * (Q * R))) ∧ Kept w w' := by
  obtain ⟨ps, pb, hi, H1⟩ := arAt_open H
  have hcap := hi.cap
  have hus := hi.used
  obtain ⟨n1, n2, n3, n4⟩ := hi.next (by omega)
  have HT := Lib.hid (fun n => stk_takeG ps A.s (w.drewN n) (Sat.draws H1.swap n) (fun e => by have := n4 e; omega) n3 n1 (by have := hi.high; have := hi.hmax; omega))
  have c0 := H1.cell 0
  have c1 := H1.cell 1
  have c4 := H1.cell 4
  have c14 := H1.cell 14
  simp [arCells] at c0 c1 c4 c14
  have HLay := Lib.hid (fun v => hi.layG v h1 h2 hc hbi hw)
  have Hcond := Lib.hid (And.intro h1 (And.intro h2 hc))
  rw [hm] at h1 h2 hc
  have hd3 : decide ((A.cap : Int) < (A.used : Int) + (m : Int)) = false := by simp; omega
  have hd4 : decide ((268435455 : Int) ≤ (A.births : Int)) = false := by simp; omega
  have hd1 : ((m : Int) == 0 || decide ((2048 : Int) < (m : Int))) = false := by simp; omega
  have HH := Lib.hid H1
  have HI := Lib.hid hi
  have Hm := Lib.hid hm
  have HHan : RowKit.Hid (∀ w, Calls Try.prog 90 #[.int .u64 ((A.births : Int) + 1), .int .u64 (A.s.next : Int)] w fun e w' => e = .returned (.tuple #[.int .u64 (hdlG A : Nat), .bool true]) ∧ w = w') := by
    intro w
    have h := handle_any (A.births + 1) A.s.next w
    rw [show handleF (A.births + 1) A.s.next = (hdlG A, true) from if_pos ⟨⟨by omega, by omega⟩, by omega, by omega⟩] at h
    simpa using h
  have hfr2 : ∀ x ∈ A.bs.map ent, x.1 ≠ (A.s.next : Int) := by
    intro x hx e
    obtain ⟨b, hb', rfl⟩ := List.mem_map.1 hx
    simp only [ent] at e
    exact n3 (hi.nums.mem_iff.2 (List.mem_map.2 ⟨b, hb', by omega⟩))
  have HFr : RowKit.Hid (look (A.bs.map ent) (A.s.next : Int) = none) := by
    show look _ _ = none
    simp only [look, Option.map_eq_none_iff, List.find?_eq_none]
    intro x hx
    simpa using hfr2 x hx
  clear hfr2
  clear H H1 n4 hw hi
  clear hm
  go_enter Try.func14, Try.ntmps14
  go_wp2_with fail
  go_quiet (fail)
  go_wp2_with fail
  refine (HT.out nq).mono ?_; rintro e w1 ⟨rfl, hs1, hk1⟩
  have HS := Lib.hid hs1.swap
  have HK := Lib.hid hk1
  have d4 := hs1.swap.cell 4
  have z4 := hs1.swap.free 4
  simp [arCells] at d4
  clear hs1 hk1
  go_wp2_with fail
  refine (HHan.out _).mono ?_; rintro e w2 ⟨rfl, rfl⟩
  have hs2 := HS.out.set 4 (.int .u64 ((A.births : Int) + 1))
  have hk2 := (((Kept.refl w).draws nq).trans HK.out).setCell ⟨p, 4, none⟩ (.int .u64 ((A.births : Int) + 1))
  generalize w1.setCell ⟨p, 4, none⟩ (.int .u64 ((A.births : Int) + 1)) = w2 at *
  have e15 := hs2.cell 15
  have hpl := hs2.lt
  simp [arCells] at e15
  have hsQ := Sat.cast (Q := Q * (own p (.cells ((arCells A ps pb).setIfInBounds 4 (.int .u64 ((A.births : Int) + 1))) 172 (0, 0)) * (stkAt ps A.s.takeG * (mapAt pb (A.bs.map ent) * (rowsAt A.bs * R))))) hs2.drew (by ac_rfl)
  have HC := Lib.hid (clone_any g cap ws m w2.drew hsQ Hm.out (hQ _ _ hsQ).2 h1 h2 (hQ _ _ hsQ).1)
  clear hsQ
  have HM : RowKit.Hid (∀ w3 v', Sat w3 (rowAt 29 v' (u64s ws) * (Q * (own p (.cells ((arCells A ps pb).setIfInBounds 4 (.int .u64 ((A.births : Int) + 1))) 172 (0, 0)) * (stkAt ps A.s.takeG * (mapAt pb (A.bs.map ent) * (rowsAt A.bs * R)))))) → Below w2.drew.heap.size w2.drew w3 →
      (∃ g' cap', v' = .slice (some ⟨g', 0, none⟩) m cap') ∧ w3.cell? ⟨p, 15, none⟩ = some (.map (some pb)) ∧ ∃ w4, (Instr.mapUpdate 170 (.map (some pb)) (.int .i64 (A.s.next : Int)) (.agg #[.int .u64 (hdlG A : Nat), v'])).run Try.prog w3 = .ok () w4 ∧
        Sat w4 (own p (.cells ((arCells A ps pb).setIfInBounds 4 (.int .u64 ((A.births : Int) + 1))) 172 (0, 0)) * (stkAt ps A.s.takeG * (mapAt pb (A.bs.map ent ++ [((A.s.next : Int), .agg #[.int .u64 (hdlG A : Nat), v'])]) * (rowAt 29 v' (u64s ws) * (rowsAt A.bs * (Q * R)))))) ∧ Kept w w4 ∧ w4.cell? ⟨p, 15, none⟩ = some (.map (some pb))) := by
    intro w3 v' h3 hb3
    have h4 := h3.cast (Q := own p (.cells ((arCells A ps pb).setIfInBounds 4 (.int .u64 ((A.births : Int) + 1))) 172 (0, 0)) * (mapAt pb (A.bs.map ent) * (stkAt ps A.s.takeG * (rowAt 29 v' (u64s ws) * (rowsAt A.bs * (Q * R)))))) (by ac_rfl)
    obtain ⟨es, clock, hl, h5⟩ := mapAt_open h4.swap
    obtain ⟨w4, es', clock', hup, hl', hb', hoth, hk, hsz⟩ := update_new (P := Try.prog) h5.block hl Try.underlying170 Try.underlying3 (A.s.next : Int) (.agg #[.int .u64 (hdlG A : Nat), v']) HFr.out
    have h6 := mapAt_shut hl' (h5.upd hb' (fun i hi _ => hoth i hi))
    have hsl : ∃ g' cap', v' = .slice (some ⟨g', 0, none⟩) m cap' := by
      have hlen : (u64s ws).length = m := by simp [u64s, Hm.out]
      rcases rowAt_open h3 with ⟨_, h, _⟩ | ⟨g', cap', cur, h, _⟩
      · rw [h] at hlen; simp at hlen; omega
      · rw [hlen] at h; exact ⟨_, _, h⟩
    have h7 := h6.cast (Q := own p (.cells ((arCells A ps pb).setIfInBounds 4 (.int .u64 ((A.births : Int) + 1))) 172 (0, 0)) * (stkAt ps A.s.takeG * (mapAt pb (A.bs.map ent ++ [((A.s.next : Int), .agg #[.int .u64 (hdlG A : Nat), v'])]) * (rowAt 29 v' (u64s ws) * (rowsAt A.bs * (Q * R)))))) (by ac_rfl)
    exact ⟨hsl, by simpa [arCells] using h4.cell 15, w4, hup, h7, (hk2.drew.below hb3).trans hk, by simpa [arCells] using h7.cell 15⟩
  have Hs2 := Lib.hid hs2
  clear hs2 hk2 HS HK HHan HT HFr
  generalize hlay : hdlG A = hh at *
  go_wp2
  go_cut [8] (fun s8 wc => s8 = .int .u64 (hh : Nat) ∧ ∃ v', Sat wc (own p (.cells ((arCells A ps pb).setIfInBounds 4 (.int .u64 ((A.births : Int) + 1))) 172 (0, 0)) * (stkAt ps A.s.takeG * (mapAt pb (A.bs.map ent ++ [((A.s.next : Int), .agg #[.int .u64 (hh : Nat), v'])]) * (rowAt 29 v' (u64s ws) * (rowsAt A.bs * (Q * R)))))) ∧ Kept w wc)
  case first =>
    go_region_held3 (fun w' => w'.cell? ⟨p, 15, none⟩ = some (.map (some pb)))
      (first | go_keep | assumption)
      (first | (go_at_call 91; refine (HC.out).mono ?_; rintro e w3 ⟨v', rfl, hs3, hb3⟩; obtain ⟨⟨g', cap', rfl⟩, k15, w4, hup, HS4, HK4, k15'⟩ := HM.out w3 v' hs3 hb3))
    all_goals (go_wp2_with fail; go_meet)
    all_goals case rel => exact ⟨rfl, _, HS4, HK4⟩
  case rest =>
    obtain ⟨rfl, v', HS4, HK4⟩ := hcut
    have d1 := HS4.cell 1
    have d2 := HS4.cell 2
    have d16 := HS4.cell 16
    have z1 := HS4.free 1
    have z2 := HS4.free 2
    have z16 := HS4.free 16
    simp [arCells] at d1 d2 d16
    have HSS := Lib.hid HS4
    have HKK := Lib.hid HK4
    have Hp := Lib.hid HI.out.peak
    have HFin : RowKit.Hid (∀ pk : Int, pk = ((A.layG ws v').peak : Int) → Sat (((wc.setCell ⟨p, 1, none⟩ (.int .i64 ((A.used : Int) + (m : Int)))).setCell ⟨p, 2, none⟩ (.int .i64 pk)).setCell ⟨p, 16, none⟩ (.int .i64 (wrap64 (wr64 A.t.lays + 1)))) (arAt p (A.layG ws v') * (Q * R))) := by
      rintro pk rfl
      have S1 := ((HS4.set 1 (.int .i64 ((A.used : Int) + (m : Int)))).set 2 (.int .i64 ((A.layG ws v').peak : Int))).set 16 (.int .i64 (wrap64 (wr64 A.t.lays + 1)))
      refine arAt_shut (ps := ps) (pb := pb) (HLay.out v') (S1.cast ?_)
      have t1 : rowsAt (A.layG ws v').bs = rowAt 29 v' (u64s ws) * rowsAt A.bs := by
        have := rows_mid A.bs [] ⟨A.s.next, hdlG A, ws, v'⟩
        simpa [Ar.layG] using this
      have t2 : (A.layG ws v').bs.map ent = A.bs.map ent ++ [((A.s.next : Int), .agg #[.int .u64 (hh : Nat), v'])] := by simp [Ar.layG, ent, hlay]
      have t3 : arCells (A.layG ws v') ps pb = (((((arCells A ps pb).setIfInBounds 4 (.int .u64 ((A.births : Int) + 1))).setIfInBounds 1 (.int .i64 ((A.used : Int) + (m : Int)))).setIfInBounds 2 (.int .i64 ((A.layG ws v').peak : Int))).setIfInBounds 16 (.int .i64 (wrap64 (wr64 A.t.lays + 1)))) := by
        rw [wr64_succ]
        simp [arCells, Ar.layG, Hm.out]
      rw [t1, t2, t3, show (A.layG ws v').s = A.s.takeG from rfl]
      ac_rfl
    have hpk1 : ((A.layG ws v').peak : Int) = max (A.peak : Int) ((A.used : Int) + (m : Int)) := by
      have : (A.layG ws v').peak = max A.peak (A.used + m) := by rw [← Hm.out]; rfl
      omega
    have hpk := Lib.hid hpk1
    clear hpk1
    clear HS4 HK4 c0 c1 c4 c14 e15 HC HM Hs2 HH z4 d4 hd1 hd3 hd4 hpl
    go_wp2_with fail
    have hL1 : (wc.setCell ⟨p, 1, none⟩ (.int .i64 ((A.used : Int) + (m : Int)))).cell? ⟨p, 1, none⟩ = some (.int .i64 ((A.used : Int) + (m : Int))) := by go_simp
    have hL2 : (wc.setCell ⟨p, 1, none⟩ (.int .i64 ((A.used : Int) + (m : Int)))).cell? ⟨p, 2, none⟩ = some (.int .i64 A.peak) := by go_simp
    refine wp_region_still_tail 12 (by kernel_rfl) (by kernel_rfl) ?_
    change wpStill _ _ (wc.setCell ⟨p, 1, none⟩ (.int .i64 ((A.used : Int) + (m : Int)))).drew _ _ _
    simp only [List.take_succ_cons, List.take_zero, List.drop_succ_cons, List.drop_zero]
    repeat still_step
    refine wpStill_nil ?_
    change wpList _ _ _ _ _ (wc.setCell ⟨p, 1, none⟩ (.int .i64 ((A.used : Int) + (m : Int)))).drew
    clear hL1 hL2
    go_wp2_with fail
    all_goals go_ret2
    all_goals refine ⟨by first | rfl | (rw [hlay]; rfl) | (rw [← hlay]; rfl) | (subst hlay; rfl) | (show _ = _; simp [hlay]), ⟨v', HFin.out _ (by rw [hpk.out] <;> omega)⟩, ?_⟩
    all_goals exact (((HKK.out.setCell _ _).setCell _ _).setCell _ _).drew
end Go.Proofs.Ytnkikhhiaecebaa

/- What the executor knows of an arena's copy. -/
namespace Go.Proofs.Ytnkikhhiaecebaa
open Go Go.RowKit

structure CloneOf (A B : Ar) : Prop where
  cap : B.cap = A.cap
  used : B.used = A.used
  peak : B.peak = A.peak
  faults : B.faults = A.faults
  births : B.births = A.births
  fixed : B.fixed = A.fixed
  s : B.s = A.s
  t : B.t = A.t
  bs : (B.bs.map key3).Perm (A.bs.map key3)
  word : ∀ h i, B.word h i = A.word h i
  inv : ArInv A
theorem perm_n {A : Ar} {bs : List Blk} (h : (bs.map key3).Perm (A.bs.map key3)) : (bs.map (·.n)).Perm (A.bs.map (·.n)) := by
  have := h.map fun x => x.1
  rw [List.map_map, List.map_map] at this
  exact this
theorem perm_h {A : Ar} {bs : List Blk} (h : (bs.map key3).Perm (A.bs.map key3)) : (bs.map fun b => (b.h, b.ws)).Perm (A.bs.map fun b => (b.h, b.ws)) := by
  have := h.map fun x => x.2
  rw [List.map_map, List.map_map] at this
  exact this
theorem key_mem {A : Ar} {bs : List Blk} (h : (bs.map key3).Perm (A.bs.map key3)) {b : Blk} (hb : b ∈ bs) : ∃ c ∈ A.bs, c.n = b.n ∧ c.h = b.h ∧ c.ws = b.ws := by
  have h1 : key3 b ∈ A.bs.map key3 := h.mem_iff.1 (List.mem_map.2 ⟨b, hb, rfl⟩)
  obtain ⟨c, hc, e⟩ := List.mem_map.1 h1
  simp only [key3, Prod.mk.injEq] at e
  exact ⟨c, hc, e⟩
theorem clone_inv {A : Ar} (hi : ArInv A) {bs : List Blk} (h : (bs.map key3).Perm (A.bs.map key3)) : ArInv { A with bs := bs } := by
  have hl : bs.length = A.bs.length := by simpa using h.length_eq
  refine { cap := hi.cap, used := hi.used, peak := hi.peak, births := hi.births, fixed := hi.fixed, nums := hi.nums.trans (perm_n h).symm, range := fun b hb => ?_, words := fun b hb => ?_, apart := (perm_n h).nodup_iff.2 hi.apart, births' := ?_, sum := ?_, backs := hi.backs, high := ?_, bnd := hi.bnd, hmax := hi.hmax }
  · obtain ⟨c, hc, e1, e2, e3⟩ := key_mem h hb
    have := hi.range c hc
    rw [e1, e2, e3] at this
    exact this
  · obtain ⟨c, hc, e1, e2, e3⟩ := key_mem h hb
    rw [← e3]
    exact hi.words c hc
  · have h1 := (perm_h h).map fun x => x.1 / 65536
    simp only [List.map_map, Function.comp] at h1
    exact h1.nodup_iff.2 hi.births'
  · have h1 := (perm_h h).map fun x => x.2.length
    simp only [List.map_map, Function.comp] at h1
    rw [hi.sum]
    exact h1.symm.sum_nat
  · show A.s.high = bs.length + _
    rw [hl]; exact hi.high
theorem nodup_inj {α β : Type} {f : α → β} : ∀ {l : List α}, (l.map f).Nodup → ∀ {a b : α}, a ∈ l → b ∈ l → f a = f b → a = b
  | [], _, _, _, ha, _, _ => by cases ha
  | x :: l, hn, a, b, ha, hb, e => by
    rw [List.map_cons, List.nodup_cons] at hn
    obtain ⟨h1, h2⟩ := hn
    rcases List.mem_cons.1 ha with h3 | h3 <;> rcases List.mem_cons.1 hb with h4 | h4
    · rw [h3, h4]
    · exact absurd (List.mem_map.2 ⟨b, h4, by rw [← e, h3]⟩) h1
    · exact absurd (List.mem_map.2 ⟨a, h3, by rw [e, h4]⟩) h1
    · exact nodup_inj h2 h3 h4 e
end Go.Proofs.Ytnkikhhiaecebaa

/- A heap's row: its least element stands at its head, whatever is put in and taken out. No program in sight. -/
namespace Go.Proofs.Ytnkikhhiaecebaa
open Go Go.RowKit
set_option maxRecDepth 100000
def HeapF (f : Nat → Int) (n : Nat) : Prop := ∀ i, 0 < i → i < n → f ((i - 1) / 2) ≤ f i
structure HeapU (f : Nat → Int) (n j : Nat) : Prop where
  one : ∀ i, 0 < i → i < n → i ≠ j → f ((i - 1) / 2) ≤ f i
  two : 0 < j → ∀ i, 0 < i → i < n → (i - 1) / 2 = j → f ((j - 1) / 2) ≤ f i
theorem swF_a (f : Nat → Int) (i j : Nat) : swF f i j i = f j := if_pos rfl
theorem swF_b (f : Nat → Int) (i j : Nat) : swF f i j j = f i := by
  unfold swF
  split
  · rename_i e; rw [e]
  · rw [if_pos rfl]
theorem swF_c (f : Nat → Int) {i j k : Nat} (h1 : k ≠ i) (h2 : k ≠ j) : swF f i j k = f k := by
  unfold swF
  rw [if_neg h1, if_neg h2]
theorem HeapU.up {f : Nat → Int} {n j : Nat} (h : HeapU f n j) (h0 : j ≠ 0) (hlt : f j < f ((j - 1) / 2)) : HeapU (swF f ((j - 1) / 2) j) n ((j - 1) / 2) := by
  have hp : (j - 1) / 2 < j := by omega
  generalize hP : (j - 1) / 2 = p at *
  refine ⟨fun i i0 hi hne => ?_, fun p0 i i0 hi he => ?_⟩
  · by_cases e : i = j
    · subst e
      rw [hP, swF_a, swF_b]
      omega
    · have h1 := h.one i i0 hi e
      rw [swF_c f hne e]
      by_cases e2 : (i - 1) / 2 = p
      · rw [e2, swF_a]
        rw [e2] at h1
        omega
      · by_cases e3 : (i - 1) / 2 = j
        · rw [e3, swF_b]
          have := h.two (by omega) i i0 hi e3
          rw [hP] at this
          exact this
        · rw [swF_c f e2 e3]
          exact h1
  · have hpp : (p - 1) / 2 < p := by omega
    rw [swF_c f (k := (p - 1) / 2) (by omega) (by omega)]
    have h2 : f ((p - 1) / 2) ≤ f p := by
      by_cases hn : p < n
      · exact h.one p p0 hn (by omega)
      · omega
    by_cases e : i = j
    · subst e
      rw [swF_b]
      exact h2
    · rw [swF_c f (by omega) e]
      have h1 := h.one i i0 hi e
      rw [he] at h1
      omega
theorem upF_heap {n : Nat} : ∀ (k : Nat) (f : Nat → Int) (j : Nat), j ≤ k → HeapU f n j → HeapF (upF f k j) n
  | 0, f, j, hj, h => fun i i0 hi => h.one i i0 hi (by omega)
  | k + 1, f, j, hj, h => by
    unfold upF
    split
    · rename_i e
      exact fun i i0 hi => h.one i i0 hi (by omega)
    · rename_i h0
      split
      · rename_i hlt
        exact upF_heap k _ _ (by omega) (h.up h0 hlt)
      · rename_i hge
        intro i i0 hi
        by_cases e : i = j
        · subst e; omega
        · exact h.one i i0 hi e
structure HeapD (f : Nat → Int) (m i : Nat) : Prop where
  one : ∀ c, 0 < c → c < m → (c - 1) / 2 ≠ i → f ((c - 1) / 2) ≤ f c
  two : 0 < i → ∀ c, 0 < c → c < m → (c - 1) / 2 = i → f ((i - 1) / 2) ≤ f c
theorem HeapD.down {f : Nat → Int} {m i c : Nat} (h : HeapD f m i) (hc0 : 0 < c) (hc : (c - 1) / 2 = i) (hlt : f c < f i) (hmin : ∀ d, 0 < d → d < m → (d - 1) / 2 = i → f c ≤ f d) (hcm : c < m) : HeapD (swF f i c) m c := by
  refine ⟨fun d d0 hd hne => ?_, fun _ d d0 hd he => ?_⟩
  · by_cases e : (d - 1) / 2 = i
    · rw [e, swF_a]
      by_cases e2 : d = c
      · rw [e2, swF_b]; omega
      · rw [swF_c f (by omega) e2]
        exact hmin d d0 hd e
    · rw [swF_c f e hne]
      by_cases e2 : d = i
      · subst e2
        rw [swF_a]
        exact h.two d0 c hc0 hcm hc
      · rw [swF_c f e2 (by intro e3; rw [e3] at e; exact e hc)]
        exact h.one d d0 hd e
  · rw [hc, swF_a, swF_c f (by omega) (by omega)]
    have := h.one d d0 hd (by omega)
    rw [he] at this
    exact this
theorem HeapD.done {f : Nat → Int} {m i : Nat} (h : HeapD f m i) (hmin : ∀ d, 0 < d → d < m → (d - 1) / 2 = i → f i ≤ f d) : HeapF f m := fun d d0 hd => by
  by_cases e : (d - 1) / 2 = i
  · rw [e]; exact hmin d d0 hd e
  · exact h.one d d0 hd e
theorem downF_heap {m : Nat} : ∀ (k : Nat) (f : Nat → Int) (i : Nat), m ≤ k + i → HeapD f m i → HeapF (downF m f k i) m
  | 0, f, i, hm, h => h.done fun d d0 hd e => by omega
  | k + 1, f, i, hm, h => by
    unfold downF
    split
    · rename_i h1
      split
      · rename_i h2
        split
        · rename_i h3
          refine downF_heap k _ _ (by omega) (h.down (by omega) (by omega) h3 (fun d d0 hd e => ?_) h2.1)
          rcases (show d = 2 * i + 1 ∨ d = 2 * i + 2 by omega) with rfl | rfl <;> omega
        · rename_i h3
          refine h.done fun d d0 hd e => ?_
          rcases (show d = 2 * i + 1 ∨ d = 2 * i + 2 by omega) with rfl | rfl <;> omega
      · rename_i h2
        have h4 : ∀ d, 0 < d → d < m → (d - 1) / 2 = i → f (2 * i + 1) ≤ f d := fun d d0 hd e => by
          rcases (show d = 2 * i + 1 ∨ d = 2 * i + 2 by omega) with rfl | rfl
          · omega
          · rcases Classical.em (f (2 * i + 2) < f (2 * i + 1)) with h5 | h5
            · exact absurd ⟨hd, h5⟩ h2
            · omega
        split
        · rename_i h3
          exact downF_heap k _ _ (by omega) (h.down (by omega) (by omega) h3 h4 h1)
        · rename_i h3
          refine h.done fun d d0 hd e => ?_
          have := h4 d d0 hd e
          omega
    · rename_i h1
      exact h.done fun d d0 hd e => by omega
def HeapL (l : List Nat) : Prop := HeapF (bkF l) l.length
theorem HeapL.nil : HeapL [] := fun i _ hi => absurd hi (Nat.not_lt_zero i)
theorem heap_least {f : Nat → Int} {n : Nat} (h : HeapF f n) : ∀ i, i < n → f 0 ≤ f i := by
  intro i
  induction i using Nat.strongRecOn with
  | _ i ih =>
    intro hi
    by_cases e : i = 0
    · rw [e]; exact Int.le_refl _
    · have h1 := ih ((i - 1) / 2) (by omega) (by omega)
      have h2 := h i (by omega) hi
      omega
theorem HeapL.least {a : Nat} {l : List Nat} (h : HeapL (a :: l)) : ∀ b ∈ a :: l, a ≤ b := fun b hb => by
  obtain ⟨i, hi, rfl⟩ := List.getElem_of_mem hb
  have := heap_least h i hi
  simp only [bkF, List.getD_eq_getElem?_getD, List.getElem?_eq_getElem hi, Option.getD_some, List.getElem?_cons_zero] at this
  omega
theorem bkF_toL {n i : Nat} {f : Nat → Int} (hi : i < n) (h0 : 0 ≤ f i) : bkF (toL n f) i = f i := by
  unfold bkF toL
  rw [List.getD_eq_getElem?_getD, List.getElem?_map, List.getElem?_range hi]
  simp only [Option.map_some, Option.getD_some]
  omega
theorem heap_toL {n : Nat} {f : Nat → Int} (h : HeapF f n) (h0 : ∀ i, i < n → 0 ≤ f i) : HeapL (toL n f) := by
  have hl : (toL n f).length = n := by simp [toL]
  intro i i0 hi
  rw [hl] at hi
  rw [bkF_toL hi (h0 i hi), bkF_toL (by omega) (h0 _ (by omega))]
  exact h i i0 hi
theorem perm_pos {n : Nat} {f : Nat → Int} {l : List Nat} (h : ((List.range n).map f).Perm (l.map fun n : Nat => (n : Int))) : ∀ i, i < n → 0 ≤ f i := fun i hi => by
  have hm : f i ∈ (List.range n).map f := List.mem_map_of_mem (List.mem_range.2 hi)
  rw [h.mem_iff] at hm
  obtain ⟨k, _, e⟩ := List.mem_map.1 hm
  omega
theorem HeapL.push {l : List Nat} (h : HeapL l) (x : Nat) : HeapL (pushH l x) := by
  refine heap_toL (upF_heap _ _ _ (Nat.le_refl _) ⟨fun i i0 hi hne => ?_, fun h0 i i0 hi he => ?_⟩) (perm_pos (pushU_perm l x))
  · unfold pushF
    rw [if_pos (by omega), if_pos (by omega)]
    exact h i i0 (by omega)
  · omega
theorem HeapL.pop {a : Nat} {l : List Nat} (h : HeapL (a :: l)) : HeapL (popH (a :: l)) := by
  have hn : (a :: l).length = l.length + 1 := rfl
  refine heap_toL (downF_heap _ _ _ (Nat.le_refl _) ⟨fun c c0 hc hne => ?_, fun h0 => absurd h0 (Nat.lt_irrefl 0)⟩) (fun i hi => perm_pos (popU_perm (l := a :: l) (by omega)) i (by omega))
  rw [swF_c _ hne (by omega), swF_c _ (by omega) (by omega)]
  exact h c c0 (by omega)
end Go.Proofs.Ytnkikhhiaecebaa

/- The document's arena: its calls, as summaries. -/
namespace Go.Proofs.Ytnkikhhiaecebaa
open Go Go.RowKit
set_option maxRecDepth 1000000
set_option maxHeartbeats 0
theorem get3_none {y : D3} {bs : List (Nat × List Nat)} {h i : Int} (hw : word3 y bs h i = none) : get3Y y bs h i = y.fault ∧ get3W y bs h i = 0 ∧ get3E y bs h i ≠ 0 := by
  refine ⟨by unfold get3Y; rw [hw], by unfold get3W; rw [hw], fun e => ?_⟩
  rw [get3E_zero, hw] at e
  cases e
theorem get3_some {y : D3} {bs : List (Nat × List Nat)} {h i w : Int} (hw : word3 y bs h i = some w) : get3Y y bs h i = y ∧ get3W y bs h i = w ∧ get3E y bs h i = 0 :=
  ⟨by unfold get3Y; rw [hw], by unfold get3W; rw [hw], by unfold get3E; rw [hw]⟩
theorem word3_fx {y y' : D3} {bs : List (Nat × List Nat)} {h i : Int} (e : y'.fxL = y.fxL) : word3 y' bs h i = word3 y bs h i := by unfold word3; rw [e]
theorem ne_true {a b : Int} (h : (a != b) = true) : a ≠ b := by simpa using h
theorem ne_false {a b : Int} (h : (a != b) = false) : a = b := by simpa using h
def getO : DocOp where
  g := 105
  tup := true
  sh := shA
  norm := mkA
  shOk := shA_ok
  cond := fun _ y _ => faultsOk y
  Y := fun x y bs => get3Y y bs x.h x.i
  B := fun _ _ bs => bs
  R := fun x y bs => [.num .u64 (get3W y bs x.h x.i), .num .i64 (get3E y bs x.h x.i)]
  run := fun W x y a len cp bs hd hc => by
    obtain ⟨h, i, o, w⟩ := x
    by_cases hf : h = 0 ∧ 0 ≤ i ∧ i < 9
    · obtain ⟨rfl, h0, h9⟩ := hf
      have key : ∀ k : Int, i = k → (∃ (T : List (Smry Try.prog XV)) (wr : FuncId → Nat → Bool) (LF k' : Nat) (s : Scr XV), Run (callN Try.prog T wr LF k' 105 [.agg (d3C y (.sliv a false len cp)), .agg [.int true .u64 0, .int true .i64 k]] ⟨[(0, .seen W)], 100⟩ s fun v m _ => docOut true W bs (get3Y y bs 0 k) [.num .u64 (get3W y bs 0 k), .num .i64 (get3E y bs 0 k)] v m)) →
          ∃ xs : List SV, (∀ ν, xs.map (SV.den ν) = (mkA ⟨0, i, o, w⟩).map (SV.den ν)) ∧ (∀ v ∈ xs, v.names = []) ∧
          ∃ (T : List (Smry Try.prog XV)) (wr : FuncId → Nat → Bool) (LF k : Nat) (s : Scr XV), Run (callN Try.prog T wr LF k 105 (.agg (d3C y (.sliv a false len cp)) :: xs) ⟨[(0, .seen W)], 100⟩ s fun v m _ => docOut true W bs (get3Y y bs 0 i) [.num .u64 (get3W y bs 0 i), .num .i64 (get3E y bs 0 i)] v m) := by
        rintro k rfl hk
        exact ⟨[.agg [.int true .u64 0, .int true .i64 i]], fun ν => rfl, (by intro v hv; simp only [List.mem_singleton] at hv; subst hv; rfl), hk⟩
      rcases (show i = 0 ∨ i = 1 ∨ i = 2 ∨ i = 3 ∨ i = 4 ∨ i = 5 ∨ i = 6 ∨ i = 7 ∨ i = 8 by omega) with e | e | e | e | e | e | e | e | e
      · exact key 0 e ⟨_, _, _, _, _, getF0_run W y a len cp bs hd⟩
      · exact key 1 e ⟨_, _, _, _, _, getF1_run W y a len cp bs hd⟩
      · exact key 2 e ⟨_, _, _, _, _, getF2_run W y a len cp bs hd⟩
      · exact key 3 e ⟨_, _, _, _, _, getF3_run W y a len cp bs hd⟩
      · exact key 4 e ⟨_, _, _, _, _, getF4_run W y a len cp bs hd⟩
      · exact key 5 e ⟨_, _, _, _, _, getF5_run W y a len cp bs hd⟩
      · exact key 6 e ⟨_, _, _, _, _, getF6_run W y a len cp bs hd⟩
      · exact key 7 e ⟨_, _, _, _, _, getF7_run W y a len cp bs hd⟩
      · exact key 8 e ⟨_, _, _, _, _, getF8_run W y a len cp bs hd⟩
    · exact ⟨_, fun _ => rfl, mkA_names _, _, _, _, _, _, get3_run W y a len cp bs h i ⟨hd, hc, hf⟩⟩
def setO : DocOp where
  g := 106
  tup := false
  sh := shAW
  norm := mkAW
  shOk := shAW_ok
  cond := fun x y bs => (word3 y bs x.h x.i).isSome = true ∧ 0 ≤ x.w ∧ x.w < 18446744073709551616
  Y := fun x y _ => set3X y x.h x.i x.w
  B := fun x _ bs => set3B bs x.h x.i x.w
  R := fun _ _ _ => []
  run := fun W x y a len cp bs hd hc => ⟨_, fun _ => rfl, mkAW_names _, _, _, _, _, _, set3_run W y a len cp bs x.h x.i x.w ⟨hd, hc⟩⟩
def freeO : DocOp where
  g := 33
  tup := true
  sh := shH
  norm := mkH
  shOk := shH_ok
  cond := fun _ y _ => D3Ok y
  Y := fun x y bs => free3Y y bs x.h
  B := fun x _ bs => free3B bs x.h
  R := fun x _ bs => [.num .i64 (free3E bs x.h)]
  run := fun W x y a len cp bs hd hc => ⟨_, fun _ => rfl, mkH_names _, _, _, _, _, _, free3_run W y a len cp bs x.h ⟨hd, hc.faults, hc.t1.1, hc.t1.2⟩⟩
def tblD3 : List (Smry Try.prog XV) := [getO.S, setO.S]
theorem read3_vc (W : World) (y : D3) (a : Option Addr) (len cp : Nat) (bs : List (Nat × List Nat)) (h i : Int) : (callN Try.prog (tblD3 : List (Smry Try.prog XV)) (fun _ _ => false) 100 20 34 [.agg (d3C y (.sliv a false len cp)), .agg [.int false .u64 h, .int false .i64 i]] ⟨[(0, .seen W)], 100⟩ (.nil) (fun v m _ => docOut true W bs (read3Y y bs h i) [.num .u64 (get3W y bs h i), .num .i64 (get3E y bs h i)] v m)) = (
 ∃ (bs_1 : List (Nat × List Nat)), DocAt W a len cp bs_1 ∧ ∀ (y0 : D3), y0 = D3.mk y.cap y.births y.peak y.faults y.x0 y.x1 y.x2 y.x3 y.x4 y.x5 y.x6 y.x7 y.x8 y.t0 y.t1 y.t2 y.t3
 y.t4 y.t5 → ((0 : Int) ≤ y0.faults ∧ y0.faults ≤ (1000000000 : Int)) ∧ ∀ (W' : World) (a' : Option Addr) (len' cp' : Nat) (y' : D3) (bs' : List (Nat × List Nat)), Grow W W' → DocAt
 W' a' len' cp' bs' → y' = getO.Y (DArg.mk h i (0 : Int) (0 : Int)) y0 bs_1 → bs' = bs_1 → ((get3E y0 bs_1 h i == (0 : Int)) = true → ((-9223372036854775808 : Int) ≤ y'.t2 + (1 :
 Int) ∧ y'.t2 + (1 : Int) ≤ (9223372036854775807 : Int)) ∧ Grow W W' ∧ DocAt W' a' len' cp' bs ∧ D3.mk y'.cap y'.births y'.peak y'.faults y'.x0 y'.x1 y'.x2 y'.x3 y'.x4 y'.x5 y'.x6
 y'.x7 y'.x8 y'.t0 y'.t1 (y'.t2 + (1 : Int)) y'.t3 y'.t4 y'.t5 = read3Y y bs h i ∧ get3W y0 bs_1 h i = get3W y bs h i ∧ get3E y0 bs_1 h i = get3E y bs h i ∧ True) ∧ ((get3E y0 bs_1 h
 i == (0 : Int)) = false → Grow W W' ∧ DocAt W' a' len' cp' bs ∧ D3.mk y'.cap y'.births y'.peak y'.faults y'.x0 y'.x1 y'.x2 y'.x3 y'.x4 y'.x5 y'.x6 y'.x7 y'.x8 y'.t0 y'.t1 y'.t2
 y'.t3 y'.t4 y'.t5 = read3Y y bs h i ∧ get3W y0 bs_1 h i = get3W y bs h i ∧ get3E y0 bs_1 h i = get3E y bs h i ∧ True)) := by
  kernel_rfl
theorem read3_run (W : World) (y : D3) (a : Option Addr) (len cp : Nat) (bs : List (Nat × List Nat)) (h i : Int) (hc : DocAt W a len cp bs ∧ D3Ok y) : Run (callN Try.prog (tblD3 : List (Smry Try.prog XV)) (fun _ _ => false) 100 20 34 [.agg (d3C y (.sliv a false len cp)), .agg [.int false .u64 h, .int false .i64 i]] ⟨[(0, .seen W)], 100⟩ (.nil) (fun v m _ => docOut true W bs (read3Y y bs h i) [.num .u64 (get3W y bs h i), .num .i64 (get3E y bs h i)] v m)) := by
  constructor
  rw [read3_vc]
  obtain ⟨hd, ok⟩ := hc
  refine ⟨bs, hd, fun y0 e0 => ?_⟩
  obtain rfl : y0 = y := e0
  refine ⟨ok.faults, fun W' a' len' cp' y' bs' g hd' ey eb => ?_⟩
  obtain rfl : bs' = bs := eb
  have ey : y' = get3Y y0 bs' h i := ey
  have ht := ok.t2
  cases hw : word3 y0 bs' h i with
  | none =>
    obtain ⟨g1, g2, g3⟩ := get3_none hw
    rw [g1] at ey
    subst ey
    have e2 : read3Y y0 bs' h i = y0.fault := by unfold read3Y; rw [hw]
    rw [e2]
    exact ⟨fun hf => absurd (by simpa using hf) g3, fun _ => ⟨g, hd', rfl, rfl, rfl, trivial⟩⟩
  | some r =>
    obtain ⟨g1, g2, g3⟩ := get3_some hw
    rw [g1] at ey
    subst ey
    have e2 : read3Y y' bs' h i = { y' with t2 := y'.t2 + 1 } := by unfold read3Y; rw [hw]
    rw [e2, g3]
    exact ⟨fun _ => ⟨⟨by omega, by omega⟩, g, hd', rfl, rfl, rfl, trivial⟩, fun hf => absurd hf (by decide)⟩
theorem write3_vc (W : World) (y : D3) (a : Option Addr) (len cp : Nat) (bs : List (Nat × List Nat)) (h i w : Int) : (callN Try.prog (tblD3 : List (Smry Try.prog XV)) (fun _ _ => false) 100 20 35 [.agg (d3C y (.sliv a false len cp)), .agg [.int false .u64 h, .int false .i64 i], .c (.int false .u64 w)] ⟨[(0, .seen W)], 100⟩ (.nil) (fun v m _ => docOut true W (write3B y bs h i w) (write3Y y bs h i w) [.num .i64 (get3E y bs h i)] v m)) = (
 ∃ (bs_1 : List (Nat × List Nat)), DocAt W a len cp bs_1 ∧ ∀ (y0 : D3), y0 = D3.mk y.cap y.births y.peak y.faults y.x0 y.x1 y.x2 y.x3 y.x4 y.x5 y.x6 y.x7 y.x8 y.t0 y.t1 y.t2 y.t3
 y.t4 y.t5 → ((0 : Int) ≤ y0.faults ∧ y0.faults ≤ (1000000000 : Int)) ∧ ∀ (W' : World) (a' : Option Addr) (len' cp' : Nat) (y' : D3) (bs' : List (Nat × List Nat)), Grow W W' → DocAt
 W' a' len' cp' bs' → y' = getO.Y (DArg.mk h i (0 : Int) (0 : Int)) y0 bs_1 → bs' = bs_1 → ((get3E y0 bs_1 h i != (0 : Int)) = true → Grow W W' ∧ DocAt W' a' len' cp' (write3B y bs h
 i w) ∧ D3.mk y'.cap y'.births y'.peak y'.faults y'.x0 y'.x1 y'.x2 y'.x3 y'.x4 y'.x5 y'.x6 y'.x7 y'.x8 y'.t0 y'.t1 y'.t2 y'.t3 y'.t4 y'.t5 = write3Y y bs h i w ∧ get3E y0 bs_1 h i =
 get3E y bs h i ∧ True) ∧ ((get3E y0 bs_1 h i != (0 : Int)) = false → ((-9223372036854775808 : Int) ≤ y'.t3 + (1 : Int) ∧ y'.t3 + (1 : Int) ≤ (9223372036854775807 : Int)) ∧ ∃ (bs_2 :
 List (Nat × List Nat)), DocAt W' a' len' cp' bs_2 ∧ ∀ (y0 : D3), y0 = D3.mk y'.cap y'.births y'.peak y'.faults y'.x0 y'.x1 y'.x2 y'.x3 y'.x4 y'.x5 y'.x6 y'.x7 y'.x8 y'.t0 y'.t1
 y'.t2 (y'.t3 + (1 : Int)) y'.t4 y'.t5 → ((word3 y0 bs_2 h i).isSome = true ∧ (0 : Int) ≤ w ∧ w < (18446744073709551616 : Int)) ∧ ∀ (W'_1 : World) (a' : Option Addr) (len' cp' : Nat)
 (y' : D3) (bs' : List (Nat × List Nat)), Grow W' W'_1 → DocAt W'_1 a' len' cp' bs' → y' = setO.Y (DArg.mk h i (0 : Int) w) y0 bs_2 → bs' = setO.B (DArg.mk h i (0 : Int) w) y0 bs_2 →
 Grow W W'_1 ∧ DocAt W'_1 a' len' cp' (write3B y bs h i w) ∧ D3.mk y'.cap y'.births y'.peak y'.faults y'.x0 y'.x1 y'.x2 y'.x3 y'.x4 y'.x5 y'.x6 y'.x7 y'.x8 y'.t0 y'.t1 y'.t2 y'.t3
 y'.t4 y'.t5 = write3Y y bs h i w ∧ (0 : Int) = get3E y bs h i ∧ True)) := by
  kernel_rfl
theorem write3_run (W : World) (y : D3) (a : Option Addr) (len cp : Nat) (bs : List (Nat × List Nat)) (h i w : Int) (hc : DocAt W a len cp bs ∧ D3Ok y ∧ 0 ≤ w ∧ w < 18446744073709551616) : Run (callN Try.prog (tblD3 : List (Smry Try.prog XV)) (fun _ _ => false) 100 20 35 [.agg (d3C y (.sliv a false len cp)), .agg [.int false .u64 h, .int false .i64 i], .c (.int false .u64 w)] ⟨[(0, .seen W)], 100⟩ (.nil) (fun v m _ => docOut true W (write3B y bs h i w) (write3Y y bs h i w) [.num .i64 (get3E y bs h i)] v m)) := by
  constructor
  rw [write3_vc]
  obtain ⟨hd, ok, w0, w1⟩ := hc
  refine ⟨bs, hd, fun y0 e0 => ?_⟩
  obtain rfl : y0 = y := e0
  refine ⟨ok.faults, fun W' a' len' cp' y' bs' g hd' ey eb => ?_⟩
  obtain rfl : bs' = bs := eb
  have ey : y' = get3Y y0 bs' h i := ey
  cases hw : word3 y0 bs' h i with
  | none =>
    obtain ⟨g1, g2, g3⟩ := get3_none hw
    rw [g1] at ey
    subst ey
    refine ⟨fun _ => ⟨g, ?_⟩, fun hf => absurd (ne_false hf) g3⟩
    have e1 : write3B y0 bs' h i w = bs' := by unfold write3B; rw [hw]
    have e2 : write3Y y0 bs' h i w = y0.fault := by unfold write3Y; rw [hw]
    rw [e1, e2]
    exact ⟨hd', rfl, rfl, trivial⟩
  | some r =>
    obtain ⟨g1, g2, g3⟩ := get3_some hw
    rw [g1] at ey
    subst ey
    (try rw [g2])
    rw [g3]
    refine ⟨fun hf => absurd rfl (ne_true hf), fun _ => ?_⟩
    have ht := ok.t3
    have f1 : write3B y' bs' h i w = set3B bs' h i w := by unfold write3B; rw [hw]
    have f2 : write3Y y' bs' h i w = set3X { y' with t3 := y'.t3 + 1 } h i w := by unfold write3Y; rw [hw]
    refine ⟨⟨by omega, by omega⟩, ?_⟩
    refine ⟨bs', hd', fun y1 e1 => ⟨⟨by rw [word3_fx (y := y') (by rw [e1]; rfl), hw]; rfl, w0, w1⟩, fun W2 a2 len2 cp2 y2 bs2 g2' hd2 ey2 eb2 => ?_⟩⟩
    have eb2 : bs2 = set3B bs' h i w := eb2
    have ey2 : y2 = set3X y1 h i w := ey2
    subst e1 eb2 ey2
    rw [f1, f2]
    exact ⟨g.trans g2', hd2, rfl, rfl, trivial⟩
theorem swap3_vc (W : World) (y : D3) (a : Option Addr) (len cp : Nat) (bs : List (Nat × List Nat)) (h i o w : Int) : (callN Try.prog (tblD3 : List (Smry Try.prog XV)) (fun _ _ => false) 100 20 36 [.agg (d3C y (.sliv a false len cp)), .agg [.int false .u64 h, .int false .i64 i], .c (.int false .u64 o), .c (.int false .u64 w)] ⟨[(0, .seen W)], 100⟩ (.nil) (fun v m _ => docOut true W (swap3B y bs h i o w) (swap3Y y bs h i o w) [.flg (swap3R y bs h i o), .num .i64 (get3E y bs h i)] v m)) = (
 ∃ (bs_1 : List (Nat × List Nat)), DocAt W a len cp bs_1 ∧ ∀ (y0 : D3), y0 = D3.mk y.cap y.births y.peak y.faults y.x0 y.x1 y.x2 y.x3 y.x4 y.x5 y.x6 y.x7 y.x8 y.t0 y.t1 y.t2 y.t3
 y.t4 y.t5 → ((0 : Int) ≤ y0.faults ∧ y0.faults ≤ (1000000000 : Int)) ∧ ∀ (W' : World) (a' : Option Addr) (len' cp' : Nat) (y' : D3) (bs' : List (Nat × List Nat)), Grow W W' → DocAt
 W' a' len' cp' bs' → y' = getO.Y (DArg.mk h i (0 : Int) (0 : Int)) y0 bs_1 → bs' = bs_1 → ((get3E y0 bs_1 h i != (0 : Int)) = true → Grow W W' ∧ DocAt W' a' len' cp' (swap3B y bs h
 i o w) ∧ D3.mk y'.cap y'.births y'.peak y'.faults y'.x0 y'.x1 y'.x2 y'.x3 y'.x4 y'.x5 y'.x6 y'.x7 y'.x8 y'.t0 y'.t1 y'.t2 y'.t3 y'.t4 y'.t5 = swap3Y y bs h i o w ∧ false = swap3R y
 bs h i o ∧ get3E y0 bs_1 h i = get3E y bs h i ∧ True) ∧ ((get3E y0 bs_1 h i != (0 : Int)) = false → ((-9223372036854775808 : Int) ≤ y'.t4 + (1 : Int) ∧ y'.t4 + (1 : Int) ≤
 (9223372036854775807 : Int)) ∧ ((get3W y0 bs_1 h i != o) = true → Grow W W' ∧ DocAt W' a' len' cp' (swap3B y bs h i o w) ∧ D3.mk y'.cap y'.births y'.peak y'.faults y'.x0 y'.x1 y'.x2
 y'.x3 y'.x4 y'.x5 y'.x6 y'.x7 y'.x8 y'.t0 y'.t1 y'.t2 y'.t3 (y'.t4 + (1 : Int)) y'.t5 = swap3Y y bs h i o w ∧ false = swap3R y bs h i o ∧ (0 : Int) = get3E y bs h i ∧ True) ∧
 ((get3W y0 bs_1 h i != o) = false → ∃ (bs_2 : List (Nat × List Nat)), DocAt W' a' len' cp' bs_2 ∧ ∀ (y0 : D3), y0 = D3.mk y'.cap y'.births y'.peak y'.faults y'.x0 y'.x1 y'.x2 y'.x3
 y'.x4 y'.x5 y'.x6 y'.x7 y'.x8 y'.t0 y'.t1 y'.t2 y'.t3 (y'.t4 + (1 : Int)) y'.t5 → ((word3 y0 bs_2 h i).isSome = true ∧ (0 : Int) ≤ w ∧ w < (18446744073709551616 : Int)) ∧ ∀ (W'_1 :
 World) (a' : Option Addr) (len' cp' : Nat) (y' : D3) (bs' : List (Nat × List Nat)), Grow W' W'_1 → DocAt W'_1 a' len' cp' bs' → y' = setO.Y (DArg.mk h i (0 : Int) w) y0 bs_2 → bs' =
 setO.B (DArg.mk h i (0 : Int) w) y0 bs_2 → Grow W W'_1 ∧ DocAt W'_1 a' len' cp' (swap3B y bs h i o w) ∧ D3.mk y'.cap y'.births y'.peak y'.faults y'.x0 y'.x1 y'.x2 y'.x3 y'.x4 y'.x5
 y'.x6 y'.x7 y'.x8 y'.t0 y'.t1 y'.t2 y'.t3 y'.t4 y'.t5 = swap3Y y bs h i o w ∧ true = swap3R y bs h i o ∧ (0 : Int) = get3E y bs h i ∧ True))) := by
  kernel_rfl
theorem swap3_run (W : World) (y : D3) (a : Option Addr) (len cp : Nat) (bs : List (Nat × List Nat)) (h i o w : Int) (hc : DocAt W a len cp bs ∧ D3Ok y ∧ 0 ≤ w ∧ w < 18446744073709551616) : Run (callN Try.prog (tblD3 : List (Smry Try.prog XV)) (fun _ _ => false) 100 20 36 [.agg (d3C y (.sliv a false len cp)), .agg [.int false .u64 h, .int false .i64 i], .c (.int false .u64 o), .c (.int false .u64 w)] ⟨[(0, .seen W)], 100⟩ (.nil) (fun v m _ => docOut true W (swap3B y bs h i o w) (swap3Y y bs h i o w) [.flg (swap3R y bs h i o), .num .i64 (get3E y bs h i)] v m)) := by
  constructor
  rw [swap3_vc]
  obtain ⟨hd, ok, w0, w1⟩ := hc
  refine ⟨bs, hd, fun y0 e0 => ?_⟩
  obtain rfl : y0 = y := e0
  refine ⟨ok.faults, fun W' a' len' cp' y' bs' g hd' ey eb => ?_⟩
  obtain rfl : bs' = bs := eb
  have ey : y' = get3Y y0 bs' h i := ey
  cases hw : word3 y0 bs' h i with
  | none =>
    obtain ⟨g1, g2, g3⟩ := get3_none hw
    rw [g1] at ey
    subst ey
    refine ⟨fun _ => ⟨g, ?_⟩, fun hf => absurd (ne_false hf) g3⟩
    have e1 : swap3B y0 bs' h i o w = bs' := by unfold swap3B; rw [hw]
    have e2 : swap3Y y0 bs' h i o w = y0.fault := by unfold swap3Y; rw [hw]
    rw [e1, e2]
    exact ⟨hd', rfl, by unfold swap3R; rw [hw], rfl, trivial⟩
  | some r =>
    obtain ⟨g1, g2, g3⟩ := get3_some hw
    rw [g1] at ey
    subst ey
    (try rw [g2])
    rw [g3]
    refine ⟨fun hf => absurd rfl (ne_true hf), fun _ => ?_⟩
    have ht := ok.t4
    refine ⟨⟨by omega, by omega⟩, fun hn => ?_, fun he => ?_⟩
    · have hn := ne_true hn
      have f1 : swap3B y' bs' h i o w = bs' := by unfold swap3B; rw [hw]; exact if_neg hn
      have f2 : swap3Y y' bs' h i o w = { y' with t4 := y'.t4 + 1 } := by unfold swap3Y; rw [hw]; exact if_neg hn
      have f3 : swap3R y' bs' h i o = false := by unfold swap3R; rw [hw]; exact decide_eq_false hn
      rw [f1, f2, f3]
      exact ⟨g, hd', rfl, rfl, rfl, trivial⟩
    have he := ne_false he
    have f1 : swap3B y' bs' h i o w = set3B bs' h i w := by unfold swap3B; rw [hw]; exact if_pos he
    have f2 : swap3Y y' bs' h i o w = set3X { y' with t4 := y'.t4 + 1 } h i w := by unfold swap3Y; rw [hw]; exact if_pos he
    have f3 : swap3R y' bs' h i o = true := by unfold swap3R; rw [hw]; exact decide_eq_true he
    refine ⟨bs', hd', fun y1 e1 => ⟨⟨by rw [word3_fx (y := y') (by rw [e1]; rfl), hw]; rfl, w0, w1⟩, fun W2 a2 len2 cp2 y2 bs2 g2' hd2 ey2 eb2 => ?_⟩⟩
    have eb2 : bs2 = set3B bs' h i w := eb2
    have ey2 : y2 = set3X y1 h i w := ey2
    subst e1 eb2 ey2
    rw [f1, f2]
    exact ⟨g.trans g2', hd2, rfl, f3.symm, rfl, trivial⟩
theorem add3_vc (W : World) (y : D3) (a : Option Addr) (len cp : Nat) (bs : List (Nat × List Nat)) (h i w : Int) : (callN Try.prog (tblD3 : List (Smry Try.prog XV)) (fun _ t => Nat.beq t 32) 100 20 37 [.agg (d3C y (.sliv a false len cp)), .agg [.int false .u64 h, .int false .i64 i], .c (.int false .u64 w)] ⟨[(0, .seen W)], 100⟩ (.nil) (fun v m _ => docOut true W (add3B y bs h i w) (add3Y y bs h i w) [.num .u64 (get3W y bs h i), .num .i64 (get3E y bs h i)] v m)) = (
 ∃ (bs_1 : List (Nat × List Nat)), DocAt W a len cp bs_1 ∧ ∀ (y0 : D3), y0 = D3.mk y.cap y.births y.peak y.faults y.x0 y.x1 y.x2 y.x3 y.x4 y.x5 y.x6 y.x7 y.x8 y.t0 y.t1 y.t2 y.t3
 y.t4 y.t5 → ((0 : Int) ≤ y0.faults ∧ y0.faults ≤ (1000000000 : Int)) ∧ ∀ (W' : World) (a' : Option Addr) (len' cp' : Nat) (y' : D3) (bs' : List (Nat × List Nat)), Grow W W' → DocAt
 W' a' len' cp' bs' → y' = getO.Y (DArg.mk h i (0 : Int) (0 : Int)) y0 bs_1 → bs' = bs_1 → ((get3E y0 bs_1 h i != (0 : Int)) = true → Grow W W' ∧ DocAt W' a' len' cp' (add3B y bs h i
 w) ∧ D3.mk y'.cap y'.births y'.peak y'.faults y'.x0 y'.x1 y'.x2 y'.x3 y'.x4 y'.x5 y'.x6 y'.x7 y'.x8 y'.t0 y'.t1 y'.t2 y'.t3 y'.t4 y'.t5 = add3Y y bs h i w ∧ (0 : Int) = get3W y bs h
 i ∧ get3E y0 bs_1 h i = get3E y bs h i ∧ True) ∧ ((get3E y0 bs_1 h i != (0 : Int)) = false → ((-9223372036854775808 : Int) ≤ y'.t5 + (1 : Int) ∧ y'.t5 + (1 : Int) ≤
 (9223372036854775807 : Int)) ∧ ∃ (bs_2 : List (Nat × List Nat)), DocAt W' a' len' cp' bs_2 ∧ ∀ (y0_1 : D3), y0_1 = D3.mk y'.cap y'.births y'.peak y'.faults y'.x0 y'.x1 y'.x2 y'.x3
 y'.x4 y'.x5 y'.x6 y'.x7 y'.x8 y'.t0 y'.t1 y'.t2 y'.t3 y'.t4 (y'.t5 + (1 : Int)) → ((word3 y0_1 bs_2 h i).isSome = true ∧ (0 : Int) ≤ IntKind.u64.wrap (get3W y0 bs_1 h i + w) ∧
 IntKind.u64.wrap (get3W y0 bs_1 h i + w) < (18446744073709551616 : Int)) ∧ ∀ (W'_1 : World) (a' : Option Addr) (len' cp' : Nat) (y' : D3) (bs' : List (Nat × List Nat)), Grow W' W'_1
 → DocAt W'_1 a' len' cp' bs' → y' = setO.Y (DArg.mk h i (0 : Int) (IntKind.u64.wrap (get3W y0 bs_1 (DArg.mk h i (0 : Int) (0 : Int)).h (DArg.mk h i (0 : Int) (0 : Int)).i + w)))
 y0_1 bs_2 → bs' = setO.B (DArg.mk h i (0 : Int) (IntKind.u64.wrap (get3W y0 bs_1 (DArg.mk h i (0 : Int) (0 : Int)).h (DArg.mk h i (0 : Int) (0 : Int)).i + w))) y0_1 bs_2 → Grow W
 W'_1 ∧ DocAt W'_1 a' len' cp' (add3B y bs h i w) ∧ D3.mk y'.cap y'.births y'.peak y'.faults y'.x0 y'.x1 y'.x2 y'.x3 y'.x4 y'.x5 y'.x6 y'.x7 y'.x8 y'.t0 y'.t1 y'.t2 y'.t3 y'.t4 y'.t5
 = add3Y y bs h i w ∧ get3W y0 bs_1 h i = get3W y bs h i ∧ (0 : Int) = get3E y bs h i ∧ True)) := by
  kernel_rfl
theorem add3_run (W : World) (y : D3) (a : Option Addr) (len cp : Nat) (bs : List (Nat × List Nat)) (h i w : Int) (hc : DocAt W a len cp bs ∧ D3Ok y ∧ 0 ≤ w ∧ w < 18446744073709551616) : Run (callN Try.prog (tblD3 : List (Smry Try.prog XV)) (fun _ t => Nat.beq t 32) 100 20 37 [.agg (d3C y (.sliv a false len cp)), .agg [.int false .u64 h, .int false .i64 i], .c (.int false .u64 w)] ⟨[(0, .seen W)], 100⟩ (.nil) (fun v m _ => docOut true W (add3B y bs h i w) (add3Y y bs h i w) [.num .u64 (get3W y bs h i), .num .i64 (get3E y bs h i)] v m)) := by
  constructor
  rw [add3_vc]
  obtain ⟨hd, ok, w0, w1⟩ := hc
  refine ⟨bs, hd, fun y0 e0 => ?_⟩
  obtain rfl : y0 = y := e0
  refine ⟨ok.faults, fun W' a' len' cp' y' bs' g hd' ey eb => ?_⟩
  obtain rfl : bs' = bs := eb
  have ey : y' = get3Y y0 bs' h i := ey
  cases hw : word3 y0 bs' h i with
  | none =>
    obtain ⟨g1, g2, g3⟩ := get3_none hw
    rw [g1] at ey
    subst ey
    refine ⟨fun _ => ⟨g, ?_⟩, fun hf => absurd (ne_false hf) g3⟩
    have e1 : add3B y0 bs' h i w = bs' := by unfold add3B; rw [hw]
    have e2 : add3Y y0 bs' h i w = y0.fault := by unfold add3Y; rw [hw]
    rw [e1, e2]
    exact ⟨hd', rfl, g2.symm, rfl, trivial⟩
  | some r =>
    obtain ⟨g1, g2, g3⟩ := get3_some hw
    rw [g1] at ey
    subst ey
    (try rw [g2])
    rw [g3]
    refine ⟨fun hf => absurd rfl (ne_true hf), fun _ => ?_⟩
    have ht := ok.t5
    have ewr : IntKind.u64.wrap (r + w) = add3W r w := by rw [← wrapK_eq]; rfl
    have hwr : 0 ≤ add3W r w ∧ add3W r w < 18446744073709551616 := by unfold add3W; omega
    have f1 : add3B y' bs' h i w = set3B bs' h i (add3W r w) := by unfold add3B; rw [hw]
    have f2 : add3Y y' bs' h i w = set3X { y' with t5 := y'.t5 + 1 } h i (add3W r w) := by unfold add3Y; rw [hw]
    rw [ewr]
    refine ⟨⟨by omega, by omega⟩, ?_⟩
    refine ⟨bs', hd', fun y1 e1 => ⟨⟨by rw [word3_fx (y := y') (by rw [e1]; rfl), hw]; rfl, hwr⟩, fun W2 a2 len2 cp2 y2 bs2 g2' hd2 ey2 eb2 => ?_⟩⟩
    have eb2 : bs2 = set3B bs' h i (add3W r w) := eb2
    have ey2 : y2 = set3X y1 h i (add3W r w) := ey2
    subst e1 eb2 ey2
    rw [f1, f2]
    exact ⟨g.trans g2', hd2, rfl, rfl, rfl, trivial⟩
def readO : DocOp where
  g := 34
  tup := true
  sh := shA
  norm := mkA
  shOk := shA_ok
  cond := fun _ y _ => D3Ok y
  Y := fun x y bs => read3Y y bs x.h x.i
  B := fun _ _ bs => bs
  R := fun x y bs => [.num .u64 (get3W y bs x.h x.i), .num .i64 (get3E y bs x.h x.i)]
  run := fun W x y a len cp bs hd hc => ⟨_, fun _ => rfl, mkA_names _, _, _, _, _, _, read3_run W y a len cp bs x.h x.i ⟨hd, hc⟩⟩
def writeO : DocOp where
  g := 35
  tup := true
  sh := shAW
  norm := mkAW
  shOk := shAW_ok
  cond := fun x y _ => D3Ok y ∧ 0 ≤ x.w ∧ x.w < 18446744073709551616
  Y := fun x y bs => write3Y y bs x.h x.i x.w
  B := fun x y bs => write3B y bs x.h x.i x.w
  R := fun x y bs => [.num .i64 (get3E y bs x.h x.i)]
  run := fun W x y a len cp bs hd hc => ⟨_, fun _ => rfl, mkAW_names _, _, _, _, _, _, write3_run W y a len cp bs x.h x.i x.w ⟨hd, hc⟩⟩
def swapO : DocOp where
  g := 36
  tup := true
  sh := shAOW
  norm := mkAOW
  shOk := shAOW_ok
  cond := fun x y _ => D3Ok y ∧ 0 ≤ x.w ∧ x.w < 18446744073709551616
  Y := fun x y bs => swap3Y y bs x.h x.i x.o x.w
  B := fun x y bs => swap3B y bs x.h x.i x.o x.w
  R := fun x y bs => [.flg (swap3R y bs x.h x.i x.o), .num .i64 (get3E y bs x.h x.i)]
  run := fun W x y a len cp bs hd hc => ⟨_, fun _ => rfl, mkAOW_names _, _, _, _, _, _, swap3_run W y a len cp bs x.h x.i x.o x.w ⟨hd, hc⟩⟩
def addO3 : DocOp where
  g := 37
  tup := true
  sh := shAW
  norm := mkAW
  shOk := shAW_ok
  cond := fun x y _ => D3Ok y ∧ 0 ≤ x.w ∧ x.w < 18446744073709551616
  Y := fun x y bs => add3Y y bs x.h x.i x.w
  B := fun x y bs => add3B y bs x.h x.i x.w
  R := fun x y bs => [.num .u64 (get3W y bs x.h x.i), .num .i64 (get3E y bs x.h x.i)]
  run := fun W x y a len cp bs hd hc => ⟨_, fun _ => rfl, mkAW_names _, _, _, _, _, _, add3_run W y a len cp bs x.h x.i x.w ⟨hd, hc⟩⟩
end Go.Proofs.Ytnkikhhiaecebaa

/- An operation upon arenas, with the handle that it means, where the blocks are the document's. -/
namespace Go.Proofs.Ytnkikhhiaecebaa
open Go Go.RowKit
set_option maxRecDepth 1000000
set_option maxHeartbeats 0
structure OpN where
  k : Int
  at' : Int
  o : Int
  wa : Option Addr
  wl : Nat
  wc : Nat
  h : Int
  b : Int
  xa : Int
  n : Int
  m : Int
def opC (x : OpN) : List SC := [.int false .i64 x.k, .int false .i64 x.at', .int false .i64 x.o, .sliv x.wa false x.wl x.wc, .int false .u64 x.h, .int false .u64 x.b, .int false .i64 x.xa, .int false .u64 x.n, .int false .u64 x.m]
def opHB (x : OpN) (h b : Int) : OpN := { x with h := h, b := b }
def opOk (x : OpN) : Prop := (0 ≤ x.h ∧ x.h < 18446744073709551616) ∧ 0 ≤ x.b ∧ x.b < 18446744073709551616
def ofQ (W : World) (x : OpN) (v : SV) (m : Mem XV) : Prop := match v with
  | .agg [.int _ .i64 k _, .int _ .i64 a _, .int _ .i64 o _, .sliv wa _ wl wc, .int _ .u64 h _, .int _ .u64 b _, .int _ .i64 xa _, .int _ .u64 n _, .int _ .u64 mm _] =>
    (k = x.k ∧ a = x.at' ∧ o = x.o ∧ wa = x.wa ∧ wl = x.wl ∧ wc = x.wc ∧ xa = x.xa ∧ n = x.n ∧ mm = x.m) ∧ opOk (opHB x h b) ∧ seenOf m.hp = some W
  | _ => Stuck 860
def ofv_3 (x : OpN) : Prop := (-9223372036854775808 : Int) ≤ x.o - (1 : Int) ∧ x.o - (1 : Int) ≤ (9223372036854775807 : Int)
def ofv_5 (x : OpN) (len : Nat) (a : Option Addr) : Prop := (0 : Int) ≤ x.o - (1 : Int) ∧ x.o - (1 : Int) < (↑len : Int) ∧ a.isSome = true
def ofv_2 (a : Option Addr) (x : OpN) (W : World) : Prop := ∃ (x_1 : Addr), addOpt (addOpt a ((x.o - (1 : Int)).toNat * 2)) #[Field.mk "H" 29 0 false "" "" 0, Field.mk "W" 42 1
 false "" "" 8][0].offset = some x_1 ∧ W.cell? x_1 = some (Value.int .u64 (seenInt .u64 W (addOpt (addOpt a ((x.o - (1 : Int)).toNat * 2)) 0)))
def ofv_4 (W : World) (a : Option Addr) (x : OpN) : ST := ST.node (SV.c (SC.int false .u64 (seenInt .u64 W (addOpt (addOpt a ((x.o - (1 : Int)).toNat * 2)) 0)) (Bd.w (0 : Int)
 (18446744073709551615 : Int) (seenInt_bd .u64 W (addOpt (addOpt a ((x.o - (1 : Int)).toNat * (fun (x : TypeInfo) => x.size) Try.prog.types[70])) #[Field.mk "H" 29 0 false "" "" 0,
 Field.mk "W" 42 1 false "" "" 8][0].offset))))) ST.nil ST.nil
def ofv_1 (W : World) (x : OpN) (len : Nat) (a : Option Addr) (K : KO XV) (cp : Nat) : Prop := W = W ∧ (ofv_3 x) ∧ (ofv_5 x len a) ∧ (addOpt a ((x.o - (1 : Int)).toNat * 2)).isSome
 = true ∧ (ofv_2 a x W) ∧ (W = W ∧ K (SF.mk 33 (ST.node (SV.agg [SC.int false .i64 x.k, SC.int false .i64 x.at', SC.int false .i64 x.o, SC.sliv x.wa false x.wl x.wc, SC.int false
 .u64 x.h, SC.int false .u64 x.b, SC.int false .i64 x.xa, SC.int false .u64 x.n, SC.int false .u64 x.m]) (ST.node (SV.c (SC.sliv a false len cp)) (ST.node (SV.tup []) (ST.node (SV.c
 (SC.boo false (decide (x.o > (0 : Int))))) (ST.node (SV.c (SC.sliv a false len cp)) (ST.node (SV.c (SC.ptr 100 5)) ST.nil ST.nil) ST.nil) (ST.node (SV.c (SC.ptr 100 2)) ST.nil
 ST.nil)) (ST.node (SV.c (SC.sliv a false len cp)) (ST.node (SV.c (SC.ptv (addOpt a ((x.o - (1 : Int)).toNat * 2)))) ST.nil ST.nil) (ST.node (SV.c (SC.ptv (addOpt (addOpt a ((x.o -
 (1 : Int)).toNat * 2)) #[Field.mk "H" 29 0 false "" "" 0, Field.mk "W" 42 1 false "" "" 8][0].offset))) ST.nil ST.nil))) (ST.node (SV.c (SC.ptr 100 2)) (ST.node (SV.c (SC.ptr 100
 2)) (ST.node (SV.c (SC.int false .i64 x.o)) ST.nil ST.nil) (ST.node (SV.c (SC.int false .i64 (x.o - (1 : Int)))) ST.nil ST.nil)) (ST.node (SV.c (SC.boo false (decide (x.o ≤ (↑len :
 Int))))) (ofv_4 W a x) (ST.node (SV.c (SC.ptr 100 4)) ST.nil ST.nil)))) (ST.node (SV.c (SC.ptr 100 0)) (ST.node (SV.c (SC.ptr 101 0)) (ST.node (SV.c (SC.boo true true)) (ST.node
 (SV.c (SC.ptr 100 2)) (ST.node (SV.tup []) ST.nil ST.nil) ST.nil) (ST.node (SV.c (SC.int false .i64 x.o)) ST.nil ST.nil)) (ST.node (SV.c (SC.int false .i64 (↑len : Int))) (ST.node
 (SV.c (SC.ptv (addOpt (addOpt a ((x.o - (1 : Int)).toNat * 2)) #[Field.mk "H" 29 0 false "" "" 0, Field.mk "W" 42 1 false "" "" 8][0].offset))) ST.nil ST.nil) (ofv_4 W a x)))
 (ST.node (SV.c (SC.int false .i64 x.o)) (ST.node (SV.c (SC.int false .i64 x.o)) (ST.node (SV.c (SC.int false .i64 (x.o - (1 : Int)))) ST.nil ST.nil) (ST.node (SV.c (SC.ptv (addOpt a
 ((x.o - (1 : Int)).toNat * 2)))) ST.nil ST.nil)) (ST.node (SV.c (SC.boo true true)) (ST.node (SV.c (SC.sliv a false len cp)) ST.nil ST.nil) (ST.node (SV.c (SC.ptr 100 5)) ST.nil
 ST.nil))))) []) (Mem.mk [(0, SO.seen W), (100, SO.cells [SC.int false .i64 x.k, SC.int false .i64 x.at', SC.int false .i64 x.o, SC.sliv x.wa false x.wl x.wc, SC.int false .u64
 (seenInt .u64 W (addOpt (addOpt a ((x.o - (1 : Int)).toNat * 2)) 0)) (Bd.w (0 : Int) (18446744073709551615 : Int) (seenInt_bd .u64 W (addOpt (addOpt a ((x.o - (1 : Int)).toNat *
 (fun (x : TypeInfo) => x.size) Try.prog.types[70])) #[Field.mk "H" 29 0 false "" "" 0, Field.mk "W" 42 1 false "" "" 8][0].offset))), SC.int false .u64 (seenInt .u64 W (addOpt
 (addOpt a ((x.o - (1 : Int)).toNat * 2)) 0)) (Bd.w (0 : Int) (18446744073709551615 : Int) (seenInt_bd .u64 W (addOpt (addOpt a ((x.o - (1 : Int)).toNat * (fun (x : TypeInfo) =>
 x.size) Try.prog.types[70])) #[Field.mk "H" 29 0 false "" "" 0, Field.mk "W" 42 1 false "" "" 8][0].offset))), SC.int false .i64 x.xa, SC.int false .u64 x.n, SC.int false .u64 x.m]
 57), (101, SO.cells [SC.int true .i64 (0 : Int), SC.int true .i64 (0 : Int), SC.int true .i64 (0 : Int), SC.nls, SC.int true .u64 (0 : Int), SC.int true .u64 (0 : Int), SC.int true
 .i64 (0 : Int), SC.int true .u64 (0 : Int), SC.int true .u64 (0 : Int)] 57)] 112) Scr.nil ∧ True) ∧ True
def ofv_6 (x : OpN) : Prop := x.k = x.k ∧ x.at' = x.at' ∧ x.o = x.o ∧ x.wa = x.wa ∧ x.wl = x.wl ∧ x.wc = x.wc ∧ x.xa = x.xa ∧ x.n = x.n ∧ x.m = x.m
def ofv_7 (W : World) (a : Option Addr) (x : OpN) : Prop := (0 : Int) ≤ seenInt .u64 W (addOpt (addOpt a ((x.o - (1 : Int)).toNat * 2)) 0) ∧ seenInt .u64 W (addOpt (addOpt a ((x.o -
 (1 : Int)).toNat * 2)) 0) < (18446744073709551616 : Int)
theorem ofv_vc (W : World) (x : OpN) (a : Option Addr) (len cp : Nat) : (callN Try.prog ([] : List (Smry Try.prog XV)) (fun _ _ => false) 100 20 31 [.agg (opC x), .c (.sliv a false len cp)] ⟨[(0, .seen W)], 100⟩ (.both (.both .nil .nil) .nil) (fun v m _ => ofQ W x v m)) = (
 (decide (x.o > (0 : Int)) = true → (decide (x.o ≤ (↑len : Int)) = true → (W = W ∧ (ofv_3 x) ∧ (ofv_5 x len a) ∧ (addOpt a ((x.o - (1 : Int)).toNat * 2)).isSome = true ∧ (ofv_2 a x
 W) ∧ (W = W ∧ (ofv_3 x) ∧ (ofv_5 x len a) ∧ (addOpt a ((x.o - (1 : Int)).toNat * 2)).isSome = true ∧ (ofv_2 a x W) ∧ (W = W ∧ ((ofv_6 x) ∧ ((ofv_7 W a x) ∧ ofv_7 W a x) ∧ some W =
 some W) ∧ True) ∧ True) ∧ True) ∧ (∀ (K : KO XV), W = W ∧ (ofv_3 x) ∧ (ofv_5 x len a) ∧ (addOpt a ((x.o - (1 : Int)).toNat * 2)).isSome = true ∧ (ofv_2 a x W) ∧ (ofv_1 W x len a K
 cp) ∧ True → W = W ∧ (ofv_3 x) ∧ (ofv_5 x len a) ∧ (addOpt a ((x.o - (1 : Int)).toNat * 2)).isSome = true ∧ (ofv_2 a x W) ∧ (ofv_1 W x len a K cp) ∧ True) ∧ True) ∧ (decide (x.o ≤
 (↑len : Int)) = false → (ofv_6 x) ∧ (((0 : Int) ≤ x.h ∧ x.h < (18446744073709551616 : Int)) ∧ (0 : Int) ≤ x.b ∧ x.b < (18446744073709551616 : Int)) ∧ some W = some W)) ∧ (decide
 (x.o > (0 : Int)) = false → (ofv_6 x) ∧ (((0 : Int) ≤ x.h ∧ x.h < (18446744073709551616 : Int)) ∧ (0 : Int) ≤ x.b ∧ x.b < (18446744073709551616 : Int)) ∧ some W = some W)) := by
  kernel_rfl
theorem ofv_run (W : World) (x : OpN) (a : Option Addr) (len cp : Nat) (hc : (∃ bs, DocAt W a len cp bs) ∧ opOk x) : Run (callN Try.prog ([] : List (Smry Try.prog XV)) (fun _ _ => false) 100 20 31 [.agg (opC x), .c (.sliv a false len cp)] ⟨[(0, .seen W)], 100⟩ (.both (.both .nil .nil) .nil) (fun v m _ => ofQ W x v m)) := by
  constructor
  rw [ofv_vc]
  delta ofv_3 ofv_5 ofv_2 ofv_4 ofv_1 ofv_6 ofv_7
  obtain ⟨⟨bs, hd⟩, ⟨hh0, hh1⟩, hb0, hb1⟩ := hc
  have hfew := hd.few
  refine ⟨fun h1 => ⟨fun h2 => ?_, fun h2 => ?_⟩, fun h1 => ?_⟩
  · have h1 := of_decide_eq_true h1
    have h2 := of_decide_eq_true h2
    have hk : (x.o - 1).toNat < len := by omega
    have hks := hd.row.kinds hk
    have hsm := hd.row.sm (by omega)
    have hso : (addOpt a ((x.o - 1).toNat * 2)).isSome = true := by rw [addOpt, Option.isSome_map]; exact hsm
    have hb := seenInt_bd .u64 W (addOpt (addOpt a ((x.o - 1).toNat * 2)) 0)
    have hbl : 0 ≤ seenInt .u64 W (addOpt (addOpt a ((x.o - 1).toNat * 2)) 0) ∧ seenInt .u64 W (addOpt (addOpt a ((x.o - 1).toNat * 2)) 0) < 18446744073709551616 := ⟨hb.1, Int.lt_of_le_of_lt hb.2 (by decide)⟩
    repeat' first
      | (refine fun (K : KO XV) => ?_; simp only [eq_self, true_and, and_true, and_imp, forall_const, imp_self, implies_true]; intros; repeat' (first | assumption | apply And.intro | exact trivial | exact rfl); done)
      | (refine fun (K : KO XV) => ?_; intro h; simp only [eq_self, true_and, and_true] at h ⊢; exact h)
      | with_reducible apply And.intro
      | with_reducible exact trivial
      | with_reducible exact Eq.refl _
      | exact hsm
      | exact hso
      | exact hks.1
      | exact hbl.1
      | exact hbl.2
      | omega
  · repeat' first | with_reducible apply And.intro | with_reducible exact trivial | with_reducible exact Eq.refl _ | assumption
  · repeat' first | with_reducible apply And.intro | with_reducible exact trivial | with_reducible exact Eq.refl _ | assumption
def ofV : Smry Try.prog XP where
  g := 31
  run := fun args m K => match args with
    | [.agg [.int _ .i64 k _, .int _ .i64 at' _, .int _ .i64 o _, .sliv wa _ wl wc, .int _ .u64 h _, .int _ .u64 b _, .int _ .i64 xa _, .int _ .u64 n _, .int _ .u64 mm _], .c (.sliv a _ len cp)] => match m.hp.get 0 with
      | some (.seen W) => ((∃ bs, DocAt W a len cp bs) ∧ (0 ≤ h ∧ h < 18446744073709551616) ∧ 0 ≤ b ∧ b < 18446744073709551616) ∧ ∀ h b, ((0 ≤ h ∧ h < 18446744073709551616) ∧ (0 ≤ b ∧ b < 18446744073709551616)) →
          K (.agg [.int false .i64 k, .int false .i64 at', .int false .i64 o, .sliv wa false wl wc, .int false .u64 h, .int false .u64 b, .int false .i64 xa, .int false .u64 n, .int false .u64 mm]) m
      | _ => Stuck 991
    | _ => Stuck 992
  ok := fun args m K hr => by
    split at hr <;> try exact hr.elim
    rename_i l1 k b1 l2 at' b2 l3 o b3 wa l4 wl wc l5 h b4 l6 b b5 l7 xa b6 l8 n b7 l9 mm b8 a l10 len cp
    split at hr <;> try exact hr.elim
    rename_i W hW
    obtain ⟨⟨hd, hh, hb⟩, hk⟩ := hr
    intro ν w R w0 H HK
    let x : OpN := ⟨k, at', o, wa, wl, wc, h, b, xa, n, mm⟩
    have ea : ([.agg [.int l1 .i64 k b1, .int l2 .i64 at' b2, .int l3 .i64 o b3, .sliv wa l4 wl wc, .int l5 .u64 h b4, .int l6 .u64 b b5, .int l7 .i64 xa b6, .int l8 .u64 n b7, .int l9 .u64 mm b8], .c (.sliv a l10 len cp)] : List SV).map (SV.den ν) = ([.agg (opC x), .c (.sliv a false len cp)] : List SV).map (SV.den ν) := rfl
    rw [ea]
    refine (seen_calls (post := fun v m => ofQ W x v m) (ofv_run W x a len cp ⟨hd, hh, hb⟩) (fun v m h => ?_) (fun y hy => ?_) hW H HK).mono ?_
    · unfold ofQ at h
      split at h <;> try exact h.elim
      exact ⟨W, h.2.2, rfl⟩
    · simp only [List.mem_cons, List.not_mem_nil, or_false] at hy; rcases hy with rfl | rfl <;> rfl
    · rintro e w' ⟨v, m', W', hv, hW', he, hs, hk'⟩
      unfold ofQ at hv
      split at hv <;> try exact hv.elim
      obtain ⟨⟨rfl, rfl, rfl, rfl, rfl, rfl, rfl, rfl, rfl⟩, hok, hv⟩ := hv
      rw [hW'] at hv
      cases hv
      rw [set_same _ hW] at hs
      exact ⟨_, m, ν, hk _ _ hok, Agree.refl _ _, Nat.le_refl _, by rw [he]; rfl, hs, hk'⟩
end Go.Proofs.Ytnkikhhiaecebaa

/- An iterator over an arena's blocks: the walk. -/
namespace Go.Proofs.Ytnkikhhiaecebaa
open Go Go.RowKit Go.Shelf
attribute [local go_sem] Oper.semAt_some

theorem all_calls (p : Nat) (A : Ar) (w : World) {R : Assn} (H : Sat w (arAt p A * R)) (hl : A.s.back.length ≤ 70000) :
    Calls Try.prog 97 #[.pointer (some ⟨p, 0, none⟩)] w fun e w' => ∃ x q bs, e = .returned (.func (.func 162) #[] #[.pointer (some ⟨x, 0, none⟩)]) ∧ (bs.map key3).Perm (A.bs.map key3) ∧
      Sat w' (own x (.cells #[.pointer (some ⟨q, 0, none⟩)] 25 (0, 0)) * (cloAt q A bs * (arAt p A * R))) ∧ Kept w w' := by
  have HC := Lib.hid (ar_clone p A w H hl)
  clear H
  go_enter Try.func97, Try.ntmps97
  go_wp2_with fail
  refine (HC.out).mono ?_; rintro e w1 ⟨q, bs, rfl, hp, hs, hk⟩
  have Hs := Lib.hid (hs.alloc (.cells #[.pointer (some ⟨q, 0, none⟩)] 25))
  clear hs HC
  go_wp2
  go_ret
  exact ⟨_, q, bs, rfl, hp, Hs.out, hk.alloc _⟩

set_option maxHeartbeats 3200000 in
set_option maxRecDepth 100000 in
theorem all_yields (n : Nat) (hn : 7 ≤ n) (A : Ar) (hi : ArInv A) (bs : List Blk) (hp : (bs.map key3).Perm (A.bs.map key3)) (x q : Nat) :
    Yields Fence.wide n Try.prog 162 #[.pointer (some ⟨x, 0, none⟩)] (fun b : Nat × List Nat × Value => #[.int .u64 b.1, b.2.2]) (fun b => rowAt 29 b.2.2 (u64s b.2.1)) (fun b => (b.1, b.2.1)) (allOf A)
      (own x (.cells #[.pointer (some ⟨q, 0, none⟩)] 25 (0, 0)) * cloAt q A bs) := by
  intro l J Jx w0 W hY hk0 hs0
  have HY := Lib.hid hY
  clear hY
  -- the copy, opened
  obtain ⟨⟨pc, pq⟩, hs1⟩ := (hs0.cast (Q := cloAt q A bs * (J [] * own x (.cells #[.pointer (some ⟨q, 0, none⟩)] 25 (0, 0)))) (by ac_rfl)).ex_mul
  obtain ⟨Y, hY⟩ : ∃ Y : Assn, Y = stkAt pc A.s * rowsAt bs := ⟨_, rfl⟩
  obtain ⟨P0, hP0⟩ : ∃ P0 : Assn, P0 = own x (.cells #[.pointer (some ⟨q, 0, none⟩)] 25 (0, 0)) * own q (.cells (arCells A pc pq) 172 (0, 0)) := ⟨_, rfl⟩
  have Hs : Go.RowKit.Hid (Sat W (mapAt pq (bs.map ent) * (P0 * (J [] * Y)))) := by
    refine hs1.cast ?_
    rw [hY, hP0]
    simp only []
    ac_rfl
  have hS : Go.RowKit.Hid (∀ w X, Sat w (P0 * X) → w.cell? ⟨x, 0, none⟩ = some (.pointer (some ⟨q, 0, none⟩)) ∧ w.cell? ⟨q, 15, none⟩ = some (.map (some pq))) := by
    intro w X h
    rw [hP0] at h
    have h := h.cast (Q := own x (.cells #[.pointer (some ⟨q, 0, none⟩)] 25 (0, 0)) * (own q (.cells (arCells A pc pq) 172 (0, 0)) * X)) (by ac_rfl)
    exact ⟨h.cell 0, h.swap.cell 15⟩
  have hlen : bs.length ≤ 60000 := by
    have h1 := hp.length_eq
    rw [List.length_map, List.length_map] at h1
    have := blocks_le hi
    omega
  have hrng : ∀ y ∈ bs.map ent, 0 ≤ y.1 ∧ y.1 ≤ 1000000 := by
    intro y hy
    obtain ⟨b, hb, rfl⟩ := List.mem_map.1 hy
    obtain ⟨c, hc, e⟩ := List.mem_map.1 (hp.mem_iff.1 (List.mem_map.2 ⟨b, hb, rfl⟩))
    simp only [key3, Prod.mk.injEq] at e
    have hr := hi.range c hc
    simp only [ent]
    omega
  have HSort := Lib.hid (sorted_keys pq (bs.map ent) W Hs.out (by simpa using (by omega : bs.length ≤ 70000)) hrng (n - 1) (by omega) (numsOf A) (by rw [nums_perm hp, List.map_map]; rfl))
  obtain ⟨c0, c15⟩ := hS.out _ _ Hs.out.swap
  refine callsIn_of_wp Try.func162 rfl trivial ?_ rfl
  simp only [Try.ntmps162, List.size_toArray, List.length_cons, List.length_nil, Nat.reduceAdd, Nat.reduceSub, Array.replicate_succ, Array.replicate_zero, List.push_toArray, List.append_toArray, List.nil_append, List.cons_append]
  have h1 : 1 ≤ n := by omega
  have hfK : Fence.wide.fn 164 := trivial
  have hfS : Fence.wide.fn 163 := trivial
  gi_wp2_with (first
    | (gi_at_call 164; refine (keys_of _ _ _).mono ?_; rintro e w' ⟨rfl, rfl⟩)
    | (gi_at_call 163; refine HSort.out.mono ?_; rintro e w2 ⟨v, rfl, hs2, hb2⟩; obtain ⟨va, vc, rfl⟩ := rowAt_len hs2 (m := A.bs.length) (by rw [List.length_map, nums_len])))
  have Hk2 := Lib.hid (hk0.below hb2)
  clear HSort Hs hs1 hs0 c0 c15 hb2
  generalize W.heap.size = bx at *
  gi_loopw [4, 5, 15] (fun _ _ vi wr => ∃ (i : Nat) (pre : List (Nat × List Nat × Value)), vi = .int .i64 i ∧ i ≤ A.bs.length ∧ pre.map (fun b => (b.1, b.2.1)) = (allOf A).take i ∧ Kept w0 wr ∧
      Sat wr (rowAt 3 (.slice va A.bs.length vc) ((numsOf A).map fun x => .int .i64 x) * (mapAt pq (bs.map ent) * (P0 * (J pre * Y)))))
    (fun _ _ vi _ => A.bs.length - (intOf vi).toNat)
  case atStart => exact ⟨0, [], rfl, Nat.zero_le _, rfl, Hk2.out, hs2⟩
  case round =>
    obtain ⟨i, pre, rfl, hi1, hpre, hk, hs⟩ := hrel
    rcases Nat.lt_or_ge i A.bs.length with him | him
    · have hin : i < (numsOf A).length := by rw [nums_len]; exact him
      obtain ⟨b, hb, hbx, hlook, hblk, hw1, hw2, hhT⟩ := nums_blk hi hp (List.getElem_mem hin)
      have hxi : (allOf A)[i]? = some (b.h, b.ws) := by unfold allOf; rw [List.getElem?_map, List.getElem?_eq_getElem hin, Option.map_some, hblk]
      have hix : ((numsOf A).map fun x => Value.int .i64 x)[i]? = some (.int .i64 (b.n : Int)) := by rw [List.getElem?_map, List.getElem?_eq_getElem hin, hbx]; rfl
      rw [← hbx] at hlook hblk
      obtain ⟨g, rfl, hcell⟩ := rowAt_at hs hix
      have hI0 : (0 : Int) ≤ (i : Int) := by omega
      have hI1 : (i : Int) < (A.bs.length : Int) := by omega
      have hd : decide ((i : Int) < (A.bs.length : Int)) = true := by simpa using him
      have hle := blocks_le hi
      have hwi : IntKind.i64.wrap ((i : Int) + 1) = (i : Int) + 1 := IntWalk.i64_in _ (by omega)
      obtain ⟨c0, c15⟩ := hS.out _ _ (hs.cast (Q := P0 * (rowAt 3 (.slice (some ⟨g, 0, none⟩) A.bs.length vc) ((numsOf A).map fun x => .int .i64 x) * (mapAt pq (bs.map ent) * (J pre * Y)))) (by ac_rfl))
      have hrun : (Instr.lookup 170 (.map (some pq)) (.int .i64 (b.n : Int)) false).run Try.prog wr = .ok (.agg #[.int .u64 b.h, b.v]) wr := by
        obtain ⟨es, clock, hl, h5⟩ := mapAt_open hs.swap
        have := lookup_bare (P := Try.prog) h5.block hl Try.underlying170 Try.underlying3 (zero_block _) (b.n : Int)
        rw [hlook] at this
        exact this
      obtain ⟨l1, l2, hl12⟩ := List.append_of_mem hb
      have hrows := rows_mid l1 l2 b
      rw [← hl12] at hrows
      obtain ⟨Y2, hY2⟩ : ∃ Y2 : Assn, Y2 = mapAt pq (bs.map ent) * (rowAt 3 (.slice (some ⟨g, 0, none⟩) A.bs.length vc) ((numsOf A).map fun x => .int .i64 x) * (stkAt pc A.s * rowsAt (l1 ++ l2))) := ⟨_, rfl⟩
      have hs3 : Sat wr (rowAt 29 b.v (u64s b.ws) * (P0 * (J pre * Y2))) := by
        refine hs.cast ?_
        rw [hY, hY2, hrows]
        ac_rfl
      obtain ⟨ra, rn, rc, hv⟩ := rowAt_slice hs3
      rw [hv] at hs3 hrun
      have Hs3 := Lib.hid hs3
      clear hs hs2 hs3 hbx hix hin
      gi_wp2_with fail
      obtain ⟨Rw, hRw⟩ : ∃ Rw : Value → Assn, Rw = fun v => rowAt 29 v (u64s b.ws) := ⟨_, rfl⟩
      have HC : Go.RowKit.Hid (∀ w (R : Assn), Sat w (Rw (.slice ra rn rc) * R) → CallsIn Fence.wide (n - 1) Try.prog 91 #[.slice ra rn rc] w fun e w' => ∃ a n c, e = .returned (.slice a n c) ∧ Sat w' (Rw (.slice a n c) * (Rw (.slice ra rn rc) * R)) ∧ Below w.heap.size w w') := by
        subst hRw
        intro w R h
        refine callsIn_wide.2 ((clone_u64 _ b.ws w h hw1 hw2).mono ?_)
        rintro e w' ⟨v', rfl, h1, h2⟩
        obtain ⟨a, n, c, rfl⟩ := rowAt_slice h1
        exact ⟨a, n, c, rfl, h1, h2⟩
      have Hs4 := Lib.hid (Hs3.out.alloc (.cells #[.int .u64 b.h, .slice ra rn rc] 179))
      have Hk4 := Lib.hid (hk.alloc (.cells #[.int .u64 b.h, .slice ra rn rc] 179))
      generalize World.alloc wr _ = w3 at *
      generalize wr.heap.size = y at *
      obtain ⟨P1, hP1⟩ : ∃ P1 : Assn, P1 = own y (.cells #[.int .u64 b.h, .slice ra rn rc] 179 (0, 0)) := ⟨_, rfl⟩
      rw [← hP1] at Hs4
      have Hs4 : Go.RowKit.Hid (Sat w3 (P1 * (Rw (.slice ra rn rc) * (P0 * (J pre * Y2))))) := by rw [hRw]; exact Hs4
      have hS1 : Go.RowKit.Hid (∀ w X, Sat w (P1 * X) → w.cell? ⟨y, 0, none⟩ = some (.int .u64 b.h) ∧ w.cell? ⟨y, 1, none⟩ = some (.slice ra rn rc)) := by
        subst hP1
        exact fun w X h => ⟨h.cell 0, h.cell 1⟩
      have hpre2 : ∀ v : Value, (pre ++ [(b.h, b.ws, v)]).map (fun b => (b.1, b.2.1)) = (allOf A).take (i + 1) := by
        intro v
        rw [List.map_append, hpre, List.take_add_one, hxi]
        rfl
      have HY2 : Go.RowKit.Hid (∀ w4 sl, Kept w0 w4 → Sat w4 (Rw sl * (Rw (.slice ra rn rc) * (P1 * (P0 * (J pre * Y2))))) → YieldAt Fence.wide (n - 1) Try.prog l #[.int .u64 b.h, sl] w4 fun e W' => ∃ bb : Bool, e = .returned (.bool bb) ∧ Kept w0 W' ∧
          (bb = true → Sat W' (J (pre ++ [(b.h, b.ws, sl)]) * (Rw (.slice ra rn rc) * (P0 * Y2)))) ∧ (bb = false → Sat W' (Jx (pre ++ [(b.h, b.ws, sl)])))) := by
        intro w4 sl hk hs
        refine YieldAt.mono (HY.out pre (b.h, b.ws, sl) (Rw (.slice ra rn rc) * (P1 * (P0 * Y2))) w4 (by rw [hpre2]; exact List.take_prefix _ _) hk (hs.cast (by rw [hRw]; simp only []; ac_rfl))) ?_
        rintro e w ⟨h1, ⟨rfl, h2⟩ | ⟨rfl, h2⟩⟩
        · exact ⟨true, rfl, h1, fun _ => (h2.cast (Q := P1 * (J (pre ++ [(b.h, b.ws, sl)]) * (Rw (.slice ra rn rc) * (P0 * Y2)))) (by ac_rfl)).right, fun h => by cases h⟩
        · exact ⟨false, rfl, h1, (fun h => by cases h), fun _ => h2.left⟩
      obtain ⟨y0, y1⟩ := hS1.out _ _ Hs4.out
      have HRw := Lib.hid hRw
      clear hP1 hRw hcell c0 c15 hrun Hs3
      have hfC : Fence.wide.fn 91 := trivial
      gi_region_with (first
        | (gi_at_call 91; refine (HC.out w3.drew _ (Sat.cast (Q := Rw (.slice ra rn rc) * (P1 * (P0 * (J pre * Y2)))) (Sat.drew Hs4.out) (by ac_rfl))).mono ?_; rintro e w4 ⟨ca, cn, cc, rfl, hs4, hb4⟩; obtain ⟨y0', y1'⟩ := hS1.out w4 _ (hs4.cast (Q := P1 * (Rw (.slice ca cn cc) * (Rw (.slice ra rn rc) * (P0 * (J pre * Y2))))) (by ac_rfl)); obtain ⟨fn, tmps, assign, body, hyr, hR⟩ := HY2.out w4 (.slice ca cn cc) (Hk4.out.drew.below hb4) hs4)
        | (refine hR.mono ?_; rintro e w5 ⟨bb, rfl, hk5, ht5, hf5⟩))
      all_goals
        cases bb with
        | false =>
          have hf := hf5 rfl
          gi_wp2
          refine bodyPost_ret (results_none rfl _ _ _) rfl ?_
          exact ⟨⟨_, rfl⟩, hk5, .inr ⟨_, by rw [hpre2]; exact List.take_prefix _ _, hf⟩⟩
        | true =>
          have hs5 : Sat w5 (rowAt 3 (.slice (some ⟨g, 0, none⟩) A.bs.length vc) ((numsOf A).map fun x => .int .i64 x) * (mapAt pq (bs.map ent) * (P0 * (J (pre ++ [(b.h, b.ws, .slice ca cn cc)]) * Y)))) := by
            refine (ht5 rfl).cast ?_
            rw [hY, hY2, hrows, HRw.out, hv]
            simp only []
            ac_rfl
          have hm : A.bs.length - ((i : Int) + 1).toNat < A.bs.length - (i : Int).toNat := by omega
          clear ht5 hf5
          gi_wp2
          go_roundw
          case rel => exact ⟨i + 1, _, by simp, by omega, hpre2 _, hk5, hs5⟩
          case measure => simpa [intOf] using hm
    · obtain rfl : i = A.bs.length := by omega
      have hd : decide ((A.bs.length : Int) < (A.bs.length : Int)) = false := by simp
      have hfin : pre.map (fun b => (b.1, b.2.1)) = allOf A := by
        rw [hpre, List.take_of_length_le]
        unfold allOf
        rw [List.length_map, nums_len]
        exact Nat.le_refl _
      have hJ : Sat wr (J pre) := (hs.cast (Q := J pre * (rowAt 3 (.slice va A.bs.length vc) ((numsOf A).map fun x => .int .i64 x) * (mapAt pq (bs.map ent) * (P0 * Y)))) (by ac_rfl)).left
      clear hs hs2
      gi_wp2
      go_end0
      exact ⟨⟨_, rfl⟩, hk, .inl ⟨pre, hfin, hJ⟩⟩
end Go.Proofs.Ytnkikhhiaecebaa

/- The first blocks of an arena (layer 3's statements): the walk. -/
namespace Go.Proofs.Ytnkikhhiaecebaa
open Go Go.RowKit Go.Shelf
attribute [local go_sem] Oper.semAt_some

def bcells (l : List (Nat × List Nat × Value)) : List Value := l.flatMap fun y => [.int .u64 y.1, y.2.2]
theorem info_blk : (Try.prog.info? 70).map (fun i => (i.zero, i.size, i.bytes)) = some (some (.agg #[.int .u64 0, .slice none 0 0]), 2, 32) := by kernel_rfl
theorem rowK_slice {w : World} {T : TypeId} {k n : Nat} {v : Value} {xs : List Value} {R : Assn} (h : Sat w (rowK T k v n xs * R)) : ∃ a c, v = .slice a n c := by
  obtain ⟨h0, ⟨rfl, h1, _⟩ | ⟨g, cap, cur, rfl, _⟩⟩ := rowK_open h
  · subst h1
    exact ⟨none, 0, rfl⟩
  · exact ⟨_, _, rfl⟩
theorem blk_app {w : World} {v : Value} {n : Nat} {l : List (Nat × List Nat × Value)} {y : Nat × List Nat × Value} {Q : Assn} (hn : n = l.length) (H : Sat w (rowK 70 2 v n (bcells l) * Q)) (hy : y.2.2.oneCell' = true) (hb : n + 1 ≤ 1000000000) :
    ∃ v' w', (∀ ty, (Builtin.append_ #[44, 44] ty #[v, .slice (some ⟨w.heap.size, 0, none⟩) 1 1]).run Try.prog (w.alloc (.cells #[.int .u64 y.1, y.2.2] 70)) = .ok v' w') ∧ Sat w' (rowK 70 2 v' (n + 1) (bcells (l ++ [y])) * Q) ∧ Kept w w' := by
  obtain ⟨i0, hi, hz0, hz1, hz2⟩ := info_parts info_blk
  have h1 := (H.alloc (.cells #[.int .u64 y.1, y.2.2] 70))
  have hc : ∀ j u, ([Value.int .u64 y.1, y.2.2] : List Value)[j]? = some u → (w.alloc (.cells #[.int .u64 y.1, y.2.2] 70)).cell? ((⟨w.heap.size, 0, none⟩ : Addr).add j) = some u := by
    intro j u hj
    match j, hj with
    | 0, hj => exact (h1.cell 0).trans hj
    | 1, hj => exact (h1.cell 1).trans hj
    | j + 2, hj => simp at hj
  obtain ⟨v', w', hr, hs, hk, _⟩ := append_core (P := Try.prog) Try.underlying44 hi hz0 hz1 rfl (by decide) (by omega) h1.swap ⟨w.heap.size, 0, none⟩ 1 1 [.int .u64 y.1, y.2.2] rfl hc (by intro u hu; simp at hu; rcases hu with rfl | rfl; exact rfl; exact hy) hb 0
  refine ⟨v', w', fun ty => hr, ?_, ((Kept.refl w).alloc _).trans hk⟩
  have e : bcells (l ++ [y]) = bcells l ++ [.int .u64 y.1, y.2.2] := by simp [bcells]
  rw [e]
  exact hs.swap.right
theorem wpListIn_append_run {F : Fence} {n : Nat} {P : Program} {w : World} {ops : Array Oper} {rest : List Oper} {o : Oper} {a : Act} {Q : Exit → Act → World → Prop} (hg : o.guard = none) (x y : Operand) (ts : Array TypeId)
    (hop : o.op = Op.call { callee := .builtin .append, args := #[x, y], argTypes := ts }) {v : Value} {w' : World} (hr : (Builtin.append_ ts o.type #[a.eval x, a.eval y]).run P w = .ok v w')
    (hK : wpListIn F n P ops Q rest (a.put o.dst v) w') : wpListIn F n P ops Q (o :: rest) a w := by
  refine wpListIn_plain hg fun K hK' => ?_
  unfold Oper.wpIn
  refine ⟨?_, ?_⟩
  · simp [Oper.about, hop, resolve, Target.leads, Sem.run_pure]
  · rw [Oper.semAt_plain F _ _ (by rw [hop]; intro c hc'; cases hc')]
    simp [execOp, hop, resolve, invoke, builtin, hr, Result.andThen]
    exact hK' _ _ hK
def keyB (b : Nat × List Nat × Value) : Nat × List Nat := (b.1, b.2.1)
def rowsP : List (Nat × List Nat × Value) → Assn
  | [] => 1
  | y :: l => rowAt 29 y.2.2 (u64s y.2.1) * rowsP l
theorem rowsP_app (y : Nat × List Nat × Value) : ∀ l, rowsP (l ++ [y]) = rowAt 29 y.2.2 (u64s y.2.1) * rowsP l
  | [] => by simp [rowsP]
  | x :: l => by
    simp only [List.cons_append, rowsP, rowsP_app y l]
    ac_rfl
def bDone (p b3 b5 : Nat) (most : Int) (A : Ar) (R : Assn) (pre : List (Nat × List Nat × Value)) : Assn := Assn.ex fun v : Value =>
  own b5 (.cells #[v] 44 (0, 0)) * (own b3 (.cells #[.int .i64 most] 3 (0, 0)) * (rowK 70 2 v pre.length (bcells pre) * (rowsP pre * (arAt p A * R))))
def okY (y : Nat × List Nat × Value) : Prop := ∃ a c, y.2.2 = .slice a y.2.1.length c
def bIn (p b3 b5 : Nat) (most : Int) (A : Ar) (R : Assn) (pre : List (Nat × List Nat × Value)) : Assn := Assn.pure ((pre = [] ∨ (pre.length : Int) ≤ most) ∧ ∀ y ∈ pre, okY y) * bDone p b3 b5 most A R pre
def bStop (p b3 b5 : Nat) (most : Int) (A : Ar) (R : Assn) (c : Code) (pre : List (Nat × List Nat × Value)) : Assn :=
  Assn.pure (c = Code.exit 0 ∧ pre ≠ [] ∧ most ≤ (pre.dropLast.length : Int) ∧ (pre.dropLast = [] ∨ (pre.dropLast.length : Int) ≤ most) ∧ ∀ y ∈ pre.dropLast, okY y) * bDone p b3 b5 most A R pre.dropLast
set_option maxHeartbeats 3200000 in
set_option maxRecDepth 100000 in
theorem blocks_keep (p : Nat) (A : Ar) (most : Int) (w : World) {R : Assn} (H : Sat w (arAt p A * R)) (hl : A.s.back.length ≤ 70000) :
    Calls Try.prog 27 #[.pointer (some ⟨p, 0, none⟩), .int .i64 most] w fun e w' => Kept w w' ∧ ∃ v xs, e = .returned v ∧ xs.map keyB = (allOf A).take most.toNat ∧ (∀ y ∈ xs, okY y) ∧
      Sat w' (rowK 70 2 v xs.length (bcells xs) * (rowsP xs * (arAt p A * R))) := by
  refine (callsIn_wide (n := 12)).1 ?_
  obtain ⟨ps, pb, hi, _⟩ := arAt_open H
  have h1 : 1 ≤ 12 := by omega
  have HW : RowKit.Hid (Sat ((w.alloc (.cells #[.int .i64 most] 3)).alloc (.cells #[.slice none 0 0] 44))
      (own (w.heap.size + 1) (.cells #[.slice none 0 0] 44 (0, 0)) * (own w.heap.size (.cells #[.int .i64 most] 3 (0, 0)) * (arAt p A * R)))) := by
    have h2 := ((H.alloc (.cells #[.int .i64 most] 3)).alloc (.cells #[.slice none 0 0] 44))
    simp only [World.size_alloc] at h2
    exact h2
  have HWk : RowKit.Hid (Kept w ((w.alloc (.cells #[.int .i64 most] 3)).alloc (.cells #[.slice none 0 0] 44))) := ((Kept.refl w).alloc _).alloc _
  have hlen : (allOf A).length ≤ 60000 := by
    have := blocks_le hi
    unfold allOf
    rw [List.length_map, nums_len]
    exact this
  clear H
  refine callsIn_of_wp_marks Try.func27 rfl trivial ?_ rfl
  simp only [Try.ntmps27, List.size_toArray, List.length_cons, List.length_nil, Nat.reduceAdd, Nat.reduceSub, Array.replicate_succ, Array.replicate_zero, List.push_toArray, List.append_toArray, List.nil_append, List.cons_append]
  have hfA : Fence.wide.fn 97 := trivial
  gi_wp2_with (gi_at_call 97; refine CallsIn.mono (callsIn_wide.2 (all_calls p A _ (HW.out.cast (Q := arAt p A * (own (w.heap.size + 1) (.cells #[.slice none 0 0] 44 (0, 0)) * (own w.heap.size (.cells #[.int .i64 most] 3 (0, 0)) * R))) (by ac_rfl)) hl)) ?_; rintro e w1 ⟨x, q, bs, rfl, hp, hs1, hk1⟩)
  have Hk1 := Lib.hid (HWk.out.trans hk1)
  have hs1 : Sat w1 (bDone p w.heap.size (w.heap.size + 1) most A R [] * (own x (.cells #[.pointer (some ⟨q, 0, none⟩)] 25 (0, 0)) * cloAt q A bs)) := by
    refine Sat.mk_ex_mul (.slice none 0 0) ?_
    have h3 := hs1.cast (Q := own (w.heap.size + 1) (.cells #[.slice none 0 0] 44 (0, 0)) * (own w.heap.size (.cells #[.int .i64 most] 3 (0, 0)) * ((arAt p A * R) * (own x (.cells #[.pointer (some ⟨q, 0, none⟩)] 25 (0, 0)) * cloAt q A bs)))) (by ac_rfl)
    have h4 := rowK_nil (T := 70) (k := 2) h3
    refine h4.cast ?_
    show rowK _ 2 _ 0 [] * _ = (_ * (_ * (rowK _ 2 _ 0 [] * (1 * _)))) * _
    rw [Assn.one_mul]
    ac_rfl
  clear hk1 HWk HW
  generalize w.heap.size + 1 = b5 at *
  generalize w.heap.size = b3 at *
  refine wpIn_rangeFunc_sat rfl h1 (gf := 162) (lb := #[.pointer (some ⟨x, 0, none⟩)]) rfl trivial (enters_of Try.func162 (by kernel_rfl) rfl) (all_yields 11 (by omega) A hi bs hp x q) (fun _ => rfl) w Hk1.out
    (bIn p b3 b5 most A R) (bStop p b3 b5 most A R) (by
      unfold bIn
      rw [Assn.mul_assoc]
      exact Sat.mk_pure_mul ⟨.inl rfl, by simp⟩ hs1)
    (fun y => { tmps := #[.pointer (some ⟨p, 0, none⟩), .int .i64 most, undef, .pointer (some ⟨b3, 0, none⟩), .slice none 0 0, .pointer (some ⟨b5, 0, none⟩), .int .u64 y.1, y.2.2, .pointer (some ⟨p, 0, none⟩), .func (.func 162) #[] #[.pointer (some ⟨x, 0, none⟩)], .int .u64 y.1, y.2.2, undef, undef, undef, undef, undef, undef, undef, undef, undef, undef, undef], defers := [] }) ?assign ?body ?done ?stop
  case assign =>
    intro l y W K hK
    gi_wp2
    exact hK
  case stop =>
    intro D c pre W hpre hk hs
    unfold bStop at hs
    have ha := hs.cast (Q := Assn.pure (c = Code.exit 0 ∧ pre ≠ [] ∧ most ≤ (pre.dropLast.length : Int) ∧ (pre.dropLast = [] ∨ (pre.dropLast.length : Int) ≤ most) ∧ ∀ y ∈ pre.dropLast, okY y) * (own D (.deferred (some [])) * bDone p b3 b5 most A R pre.dropLast)) (by ac_rfl)
    clear hs
    obtain ⟨⟨hce, hne, hm1, hm2, hok⟩, hb⟩ := ha.pure_mul
    clear ha
    subst hce
    have hres : pre.dropLast.map keyB = (allOf A).take most.toNat := by
      obtain ⟨t, ht⟩ := hpre
      have hsplit := List.dropLast_concat_getLast hne
      have e1 : allOf A = pre.dropLast.map keyB ++ ([pre.getLast hne].map keyB ++ t) := by
        rw [← ht, ← List.append_assoc, ← List.map_append, hsplit]
        rfl
      have hl : most.toNat = (pre.dropLast.map keyB).length := by
        rw [List.length_map]
        rcases hm2 with e | e
        · rw [e] at hm1 ⊢
          simp at hm1 ⊢
          omega
        · omega
      rw [e1, hl, List.take_left']
      rfl
    have hd := hb.cast (Q := bDone p b3 b5 most A R pre.dropLast * own D (.deferred (some []))) (by ac_rfl)
    clear hb
    generalize pre.dropLast = xs at *
    obtain ⟨v, hf⟩ := hd.ex_mul
    clear hd
    have hs := hf.cast (Q := own D (.deferred (some [])) * (own b5 (.cells #[v] 44 (0, 0)) * (own b3 (.cells #[.int .i64 most] 3 (0, 0)) * (rowK 70 2 v xs.length (bcells xs) * (rowsP xs * (arAt p A * R)))))) (by ac_rfl)
    obtain ⟨va, vc, rfl⟩ := rowK_slice (hs.cast (Q := rowK 70 2 v xs.length (bcells xs) * (own D (.deferred (some [])) * (own b5 (.cells #[v] 44 (0, 0)) * (own b3 (.cells #[.int .i64 most] 3 (0, 0)) * (rowsP xs * (arAt p A * R)))))) (by ac_rfl))
    have hKD := hs.block
    have c5 := hs.swap.cell 0
    simp only [List.getElem?_toArray, List.getElem?_cons_zero] at c5
    have hs7 := Lib.hid ((hs.put (.deferred none)).right.right.right)
    have hk7 := (hk.put D (.deferred none))
    clear hs
    gi_wp2
    refine ⟨by simp, .inl ⟨_, _, rfl, run_takeDeferred hKD, ?_⟩⟩
    exact ⟨_, results_tmp (t := 4) rfl _ _ _, hk7, _, xs, rfl, hres, hok, hs7.out⟩
  case body =>
    intro l pre y Rf W hpre hk hs
    unfold bIn at hs
    rw [Assn.mul_assoc] at hs
    obtain ⟨⟨hm, hok⟩, hs⟩ := hs.pure_mul
    obtain ⟨v, hs⟩ := hs.ex_mul
    obtain ⟨yh, yw, yv⟩ := y
    have hs := hs.cast (Q := rowK 70 2 v pre.length (bcells pre) * (own b5 (.cells #[v] 44 (0, 0)) * (own b3 (.cells #[.int .i64 most] 3 (0, 0)) * (rowAt 29 yv (u64s yw) * (rowsP pre * (arAt p A * (R * Rf))))))) (by simp only []; ac_rfl)
    obtain ⟨va, vc, rfl⟩ := rowK_slice hs
    obtain ⟨ya, yc, rfl⟩ := rowAt_len (m := yw.length) (hs.cast (Q := rowAt 29 yv (u64s yw) * (rowK 70 2 (.slice va pre.length vc) pre.length (bcells pre) * (own b5 (.cells #[.slice va pre.length vc] 44 (0, 0)) * (own b3 (.cells #[.int .i64 most] 3 (0, 0)) * (rowsP pre * (arAt p A * (R * Rf))))))) (by ac_rfl)) (by simp [u64s])
    generalize hyn : yw.length = yn at *
    have hokY : ∀ y ∈ pre ++ [(yh, yw, Value.slice ya yn yc)], okY y := by
      intro y hy
      rcases List.mem_append.1 hy with h | h
      · exact hok y h
      · simp only [List.mem_singleton] at h
        subst h
        exact ⟨ya, yc, by rw [hyn]⟩
    have c5 := hs.swap.cell 0
    have c3 := (hs.cast (Q := own b3 (.cells #[.int .i64 most] 3 (0, 0)) * (rowK 70 2 (.slice va pre.length vc) pre.length (bcells pre) * (own b5 (.cells #[.slice va pre.length vc] 44 (0, 0)) * (rowAt 29 (.slice ya yn yc) (u64s yw) * (rowsP pre * (arAt p A * (R * Rf))))))) (by ac_rfl)).cell 0
    simp only [List.getElem?_toArray, List.getElem?_cons_zero] at c5 c3
    have hplen : pre.length + 1 ≤ 60000 := by
      have h2 := hpre.length_le
      simp at h2
      omega
    by_cases hlt : (pre.length : Int) < most
    · have hd : decide (most ≤ (pre.length : Int)) = false := by simp; omega
      obtain ⟨v', w', hr, hs2, hk2⟩ := blk_app (y := (yh, yw, .slice ya yn yc)) rfl hs rfl (by omega)
      obtain ⟨va', vc', rfl⟩ := rowK_slice hs2
      have c5' := hs2.swap.cell 0
      have z5' := hs2.swap.free 0
      simp only [List.getElem?_toArray, List.getElem?_cons_zero] at c5'
      have hs3 := hs2.swap.set 0 (.slice va' (pre.length + 1) vc')
      have hk3 := (hk.trans hk2).setCell ⟨b5, 0, none⟩ (.slice va' (pre.length + 1) vc')
      have hfin : RowKit.Hid (Sat (w'.setCell ⟨b5, 0, none⟩ (.slice va' (pre.length + 1) vc')) (bIn p b3 b5 most A R (pre ++ [(yh, yw, .slice ya yn yc)]) * Rf)) := by
        show Sat _ _
        unfold bIn
        rw [Assn.mul_assoc]
        refine Sat.mk_pure_mul ⟨.inr (by simp; omega), hokY⟩ (Sat.mk_ex_mul (.slice va' (pre.length + 1) vc') ?_)
        have hs4 := hs3.cast (Q := rowAt 29 (.slice ya yn yc) (u64s yw) * (own b5 (.cells #[.slice va' (pre.length + 1) vc'] 44 (0, 0)) * (own b3 (.cells #[.int .i64 most] 3 (0, 0)) * (rowK 70 2 (.slice va' (pre.length + 1) vc') (pre.length + 1) (bcells (pre ++ [(yh, yw, .slice ya yn yc)])) * (rowsP pre * (arAt p A * (R * Rf))))))) (by
          show own b5 (.cells (#[Value.slice va pre.length vc].setIfInBounds 0 _) _ _) * _ = _
          simp only [List.setIfInBounds_toArray, List.set_cons_zero]
          ac_rfl)
        refine hs4.cast ?_
        rw [rowsP_app]
        simp only [List.length_append, List.length_cons, List.length_nil]
        ac_rfl
      clear hs hs2 hs3
      gi_wp2_with (gi_at_builtin; refine wpListIn_append_run rfl (.tmp 16) (.tmp 20) #[44, 44] rfl (hr _) ?_)
      exact ⟨hk3, hfin.out⟩
    · have hd : decide (most ≤ (pre.length : Int)) = true := by simp; omega
      have hfin : RowKit.Hid (Sat W (bStop p b3 b5 most A R (Code.exit 0) (pre ++ [(yh, yw, Value.slice ya yn yc)]) * Rf)) := by
        show Sat _ _
        unfold bStop
        rw [Assn.mul_assoc]
        rw [List.dropLast_concat]
        refine Sat.mk_pure_mul ⟨rfl, by simp, by omega, hm, hok⟩ (Sat.mk_ex_mul (.slice va pre.length vc) ?_)
        have hs4 := hs.cast (Q := rowAt 29 (.slice ya yn yc) (u64s yw) * (own b5 (.cells #[.slice va pre.length vc] 44 (0, 0)) * (own b3 (.cells #[.int .i64 most] 3 (0, 0)) * (rowK 70 2 (.slice va pre.length vc) pre.length (bcells pre) * (rowsP pre * (arAt p A * (R * Rf))))))) (by ac_rfl)
        refine hs4.right.cast ?_
        ac_rfl
      clear hs
      gi_wp2
      exact ⟨hk, hfin.out⟩
  case done =>
    intro D xs W hxs hk hs
    unfold bIn at hs
    have hs := hs.cast (Q := Assn.pure ((xs = [] ∨ (xs.length : Int) ≤ most) ∧ ∀ y ∈ xs, okY y) * (own D (.deferred (some [])) * bDone p b3 b5 most A R xs)) (by ac_rfl)
    obtain ⟨⟨hm, hok⟩, hs⟩ := hs.pure_mul
    have hres : xs.map keyB = (allOf A).take most.toNat := by
      have hxs : xs.map keyB = allOf A := hxs
      rw [hxs, List.take_of_length_le]
      rw [← hxs, List.length_map]
      rcases hm with rfl | h
      · simp
      · omega
    have hs := hs.cast (Q := bDone p b3 b5 most A R xs * own D (.deferred (some []))) (by ac_rfl)
    obtain ⟨v, hs⟩ := hs.ex_mul
    have hs := hs.cast (Q := own D (.deferred (some [])) * (own b5 (.cells #[v] 44 (0, 0)) * (own b3 (.cells #[.int .i64 most] 3 (0, 0)) * (rowK 70 2 v xs.length (bcells xs) * (rowsP xs * (arAt p A * R)))))) (by ac_rfl)
    obtain ⟨va, vc, rfl⟩ := rowK_slice (hs.cast (Q := rowK 70 2 v xs.length (bcells xs) * (own D (.deferred (some [])) * (own b5 (.cells #[v] 44 (0, 0)) * (own b3 (.cells #[.int .i64 most] 3 (0, 0)) * (rowsP xs * (arAt p A * R)))))) (by ac_rfl))
    have hKD := hs.block
    have c5 := hs.swap.cell 0
    simp only [List.getElem?_toArray, List.getElem?_cons_zero] at c5
    have hs7 := Lib.hid ((hs.put (.deferred none)).right.right.right)
    have hk7 := (hk.put D (.deferred none))
    clear hs
    gi_wp2
    refine ⟨by simp, .inl ⟨_, _, rfl, run_takeDeferred hKD, ?_⟩⟩
    exact ⟨_, results_tmp (t := 4) rfl _ _ _, hk7, _, xs, rfl, hres, hok, hs7.out⟩
theorem blocks_calls (p : Nat) (A : Ar) (most : Int) (w : World) {R : Assn} (H : Sat w (arAt p A * R)) (hl : A.s.back.length ≤ 70000) :
    Calls Try.prog 27 #[.pointer (some ⟨p, 0, none⟩), .int .i64 most] w fun e w' => Kept w w' ∧ ∃ v xs, e = .returned v ∧ xs.map keyB = (allOf A).take most.toNat ∧ (∀ y ∈ xs, okY y) ∧
      Sat w' (rowK 70 2 v xs.length (bcells xs) * (arAt p A * R)) :=
  (blocks_keep p A most w H hl).mono fun _ _ ⟨hk, v, xs, he, hm, ho, hs⟩ => ⟨hk, v, xs, he, hm, ho, (hs.cast (Q := rowsP xs * (rowK 70 2 v xs.length (bcells xs) * (arAt p A * R))) (by ac_rfl)).right⟩
end Go.Proofs.Ytnkikhhiaecebaa

/- Rows of words and of blocks, put with the old memory: plain facts. -/
namespace Go.Proofs.Ytnkikhhiaecebaa
open Go Go.RowKit

theorem row_frz {T : TypeId} {W w : World} {v : Value} {ws : List Nat} {R : Assn} (hb : ∀ x ∈ ws, x < TW) (h : Sat w (rowAt T v (u64s ws) * (seenA W * R))) :
    ∃ W', Grow W W' ∧ (∃ a c, v = .slice a ws.length c ∧ WordsAt W' a ws) ∧ Sat w (seenA W' * R) := by
  rcases rowAt_open h with ⟨rfl, h2, h3⟩ | ⟨g, cap, cur, rfl, h2, h3, h4, h5, h6⟩
  · have : ws = [] := by
      cases ws with
      | nil => rfl
      | cons x l => simp [u64s] at h2
    subst this
    exact ⟨W, Grow.refl W, ⟨none, 0, rfl, WordsAt.nil W none⟩, h3⟩
  · obtain ⟨W', hg, hv, hs⟩ := seenA_freeze (W := W) (h6.cast (by ac_rfl))
    have hlen : (u64s ws).length = ws.length := by simp [u64s]
    refine ⟨W', hg, ⟨some ⟨g, 0, none⟩, cap, by rw [hlen], ⟨fun _ => rfl, fun j u hj => ⟨⟨⟨g, j, none⟩, by simp [addOpt, Addr.add_mid], hv j _ ?_⟩, hb u (List.mem_of_getElem? hj)⟩⟩⟩, hs⟩
    have e : (u64s ws)[j]? = some (.int .u64 (u : Nat)) := by simp [u64s, hj]
    rw [← h5, List.getElem?_take] at e
    split at e
    · simpa using e
    · cases e
theorem rows_frz {w : World} {R : Assn} : ∀ {xs : List (Nat × List Nat × Value)} {W : World}, (∀ y ∈ xs, ∀ x ∈ y.2.1, x < TW) → Sat w (rowsP xs * (seenA W * R)) →
    ∃ W', Grow W W' ∧ (∀ y ∈ xs, ∃ a c, y.2.2 = .slice a y.2.1.length c ∧ WordsAt W' a y.2.1) ∧ Sat w (seenA W' * R)
  | [], W, _, h => ⟨W, Grow.refl W, fun y hy => (by cases hy), h.cast (by simp only [rowsP]; rw [Assn.one_mul])⟩
  | y :: xs, W, hb, h => by
    have h1 : Sat w (rowAt 29 y.2.2 (u64s y.2.1) * (seenA W * (rowsP xs * R))) := h.cast (by simp only [rowsP]; ac_rfl)
    obtain ⟨W1, g1, ⟨a, c, e, hw⟩, h2⟩ := row_frz (hb y (List.mem_cons_self ..)) h1
    obtain ⟨W2, g2, hr, h3⟩ := rows_frz (W := W1) (xs := xs) (fun z hz => hb z (List.mem_cons_of_mem _ hz)) (h2.cast (by ac_rfl))
    refine ⟨W2, g1.trans g2, fun z hz => ?_, h3⟩
    rcases List.mem_cons.1 hz with rfl | hz
    · exact ⟨a, c, e, hw.grow g2⟩
    · exact hr z hz
theorem bcells_get {xs : List (Nat × List Nat × Value)} {i : Nat} {y : Nat × List Nat × Value} (h : xs[i]? = some y) : (bcells xs)[i * 2]? = some (.int .u64 (y.1 : Nat)) ∧ (bcells xs)[i * 2 + 1]? = some y.2.2 := by
  induction xs generalizing i with
  | nil => simp at h
  | cons z xs ih =>
    have e : bcells (z :: xs) = .int .u64 z.1 :: z.2.2 :: bcells xs := rfl
    cases i with
    | zero =>
      simp only [List.getElem?_cons_zero, Option.some.injEq] at h
      subst h
      rw [e]
      exact ⟨rfl, rfl⟩
    | succ i =>
      simp only [List.getElem?_cons_succ] at h
      obtain ⟨h1, h2⟩ := ih h
      rw [e, show (i + 1) * 2 = i * 2 + 1 + 1 by omega]
      exact ⟨h1, h2⟩
theorem blk_frz {W w : World} {v : Value} {xs : List (Nat × List Nat × Value)} {R : Assn} (hh : ∀ y ∈ xs, y.1 < TW) (hr : ∀ y ∈ xs, ∃ a c, y.2.2 = .slice a y.2.1.length c ∧ WordsAt W a y.2.1)
    (h : Sat w (rowK 70 2 v xs.length (bcells xs) * (seenA W * R))) :
    ∃ W' a cap, Grow W W' ∧ v = .slice a xs.length cap ∧ BlkRow W' a xs.length (xs.map keyB) ∧ xs.length ≤ cap ∧ cap ≤ maxLen ∧ Sat w (seenA W' * R) := by
  obtain ⟨h0, ⟨rfl, h1, h2⟩ | ⟨g, cap, cur, rfl, h1, h2, h3, h4, h5⟩⟩ := rowK_open h
  · have : xs = [] := by
      cases xs with
      | nil => rfl
      | cons y l => simp at h1
    subst this
    exact ⟨W, none, 0, Grow.refl W, rfl, BlkRow.nil W none, Nat.le_refl _, Nat.zero_le _, h2⟩
  · obtain ⟨W', hg, hv, hs⟩ := seenA_freeze (W := W) (h5.cast (by ac_rfl))
    refine ⟨W', some ⟨g, 0, none⟩, cap, hg, rfl, ⟨by simp, fun _ => rfl, fun i b hi => ?_⟩, h1, h2, hs⟩
    rw [List.getElem?_map] at hi
    cases hx : xs[i]? with
    | none => rw [hx] at hi; cases hi
    | some y =>
      rw [hx] at hi
      simp only [Option.map_some, Option.some.injEq] at hi
      subst hi
      obtain ⟨e1, e2⟩ := bcells_get hx
      have hm := List.mem_of_getElem? hx
      obtain ⟨a, c, e3, hw⟩ := hr y hm
      have cell : ∀ (j : Nat) (u : Value), (bcells xs)[j]? = some u → CellAt W' (some ⟨g, 0, none⟩) j u := fun j u hj => by
        refine ⟨⟨g, j, none⟩, by simp [addOpt, Addr.add_mid], hv j u ?_⟩
        rw [← h4, List.getElem?_take] at hj
        split at hj
        · simpa using hj
        · cases hj
      refine ⟨cell _ _ e1, hh y hm, a, c, ?_, hw.grow hg⟩
      rw [e3] at e2
      exact cell _ _ e2
theorem set_del {E : EXT} {n : Nat} {p : SO E} : ∀ {h : SH E}, (h.set n p).del n = h.del n
  | [] => rfl
  | (i, q) :: l => by
    simp only [SH.set, SH.del]
    by_cases e : i = n
    · simp only [if_pos e, SH.del]
    · simp only [if_neg e, SH.del]; rw [set_del (h := l)]
theorem set_get {E : EXT} {n : Nat} {o p : SO E} : ∀ {h : SH E}, h.get n = some o → (h.set n p).get n = some p
  | [], e => by cases e
  | (i, q) :: l, e => by
    simp only [SH.get] at e
    simp only [SH.set]
    split at e
    · rename_i e'; simp only [if_pos e', SH.get]
    · rename_i e'; simp only [if_neg e', SH.get]; exact set_get e
end Go.Proofs.Ytnkikhhiaecebaa

/- The document's arena: two lists of blocks compared (frozen rows). -/
namespace Go.Proofs.Ytnkikhhiaecebaa
open Go Go.RowKit
set_option maxRecDepth 1000000
set_option maxHeartbeats 0
def hd3 (W : World) (a : Option Addr) (j : Nat) : Int := seenInt .u64 W (addOpt (addOpt a (j * 2)) 0)
def sl3 (W : World) (a : Option Addr) (j : Nat) : Option Addr × Nat × Nat := seenSli W (addOpt (addOpt a (j * 2)) 1)
def wd3 (W : World) (a : Option Addr) (j k : Nat) : Int := seenInt .u64 W (addOpt (sl3 W a j).1 k)
structure RowW (W : World) (a : Option Addr) (len : Nat) : Prop where
  row : Row3 W a len
  ws : ∀ j, j < len → (0 < (sl3 W a j).2.1 → (sl3 W a j).1.isSome = true) ∧ ∀ k, k < (sl3 W a j).2.1 → Seen .u64 W (addOpt (sl3 W a j).1 k)
def EqB (W : World) (a b : Option Addr) (j : Nat) : Prop := hd3 W a j = hd3 W b j ∧ (sl3 W a j).2.1 = (sl3 W b j).2.1 ∧ ∀ k, k < (sl3 W a j).2.1 → wd3 W a j k = wd3 W b j k
def retBS3 (W : World) (p : Prop) (v : SV) (m : Mem XV) : Prop := match v with
  | .c (.boo _ b) => (b = true ↔ p) ∧ seenOf m.hp = some W
  | _ => Stuck 672
abbrev SY (W : World) (a b : Option Addr) (n : Nat) : Type := {i : Nat // i ≤ n ∧ ∀ j, j < i → EqB W a b j}
abbrev SK (W : World) (a b : Option Addr) (j : Nat) : Type := {k : Nat // k ≤ (sl3 W a j).2.1 ∧ ∀ q, q < k → wd3 W a j q = wd3 W b j q}
def same3_1 {b : Option Addr} {len : Nat} (a : Option Addr) (W : World) (y : SY W a b len) : Prop := ∃ (x : Addr), addOpt (addOpt a ((↑y.val : Int).toNat * 2)) #[Field.mk "H" 25 0
 false "" "" 0, Field.mk "W" 32 1 false "" "" 8][1].offset = some x ∧ W.cell? x = some (Value.slice (seenSli W (addOpt (addOpt a ((↑y.val : Int).toNat * 2)) #[Field.mk "H" 25 0 false
 "" "" 0, Field.mk "W" 32 1 false "" "" 8][1].offset)).fst (seenSli W (addOpt (addOpt a ((↑y.val : Int).toNat * 2)) 1)).snd.fst (seenSli W (addOpt (addOpt a ((↑y.val : Int).toNat *
 2)) 1)).snd.snd)
def same3_2 {a : Option Addr} {len : Nat} (b : Option Addr) (W : World) (y : SY W a b len) (x : Addr) : Prop := addOpt (addOpt b ((↑y.val : Int).toNat * 2)) #[Field.mk "H" 25 0
 false "" "" 0, Field.mk "W" 32 1 false "" "" 8][1].offset = some x ∧ W.cell? x = some (Value.slice (seenSli W (addOpt (addOpt b ((↑y.val : Int).toNat * 2)) #[Field.mk "H" 25 0 false
 "" "" 0, Field.mk "W" 32 1 false "" "" 8][1].offset)).fst (seenSli W (addOpt (addOpt b ((↑y.val : Int).toNat * 2)) 1)).snd.fst (seenSli W (addOpt (addOpt b ((↑y.val : Int).toNat *
 2)) 1)).snd.snd)
def same3_3 (len : Nat) (W : World) (a b : Option Addr) : Prop := ∀ (j : Nat), j < len → hd3 W a j = hd3 W b j ∧ (sl3 W a j).snd.fst = (sl3 W b j).snd.fst ∧ ∀ (k : Nat), k < (sl3 W
 a j).snd.fst → wd3 W a j k = wd3 W b j k
def same3_4 {W : World} {b : Option Addr} (len : Nat) (a : Option Addr) (y : SY W a b len) : Prop := (0 : Int) ≤ (↑y.val : Int) ∧ (↑y.val : Int) < (↑len : Int) ∧ a.isSome = true
theorem same3_vc (W : World) (a : Option Addr) (len cp : Nat) (b : Option Addr) (len2 cp2 : Nat) : (callN Try.prog ([] : List (Smry Try.prog XV)) (fun _ _ => false) 100 20 39 [.c (.sliv a false len cp), .c (.sliv b false len2 cp2)] ⟨[(0, .seen W)], 100⟩ (.both .nil (.inv (liveL [0, 1, 4, 13, 14]) ((List.range 1500).map (· + 1)) (SY W a b len) (fun _ y => ([(14, .c (.int false .i64 (y.1 : Int)))], [])) (fun y => len - y.1) fun y => .both (.both .nil (.both .nil (.inv (liveL [0, 1, 4, 5, 13, 14, 48, 49]) ((List.range 1500).map (· + 1)) (SK W a b y.1) (fun _ z => ([(49, .c (.int false .i64 (z.1 : Int)))], [])) (fun z => (sl3 W a y.1).2.1 - z.1) fun _ => .both (.both .nil .nil) .nil))) .nil)) (fun v m _ => retBS3 W (len = len2 ∧ ∀ j, j < len → EqB W a b j) v m)) = (
 (((↑len : Int) != (↑len2 : Int)) = true → (false = true ↔ len = len2 ∧ same3_3 len W a b) ∧ some W = some W) ∧ (((↑len : Int) != (↑len2 : Int)) = false → (∃ (y : SY W a b len), a =
 a ∧ len = len ∧ cp = cp ∧ b = b ∧ len2 = len2 ∧ cp2 = cp2 ∧ (↑len : Int) = (↑len : Int) ∧ W = W ∧ (↑y.val : Int) = (0 : Int) ∧ True) ∧ ∀ (y : SY W a b len) (ρ : Nat → Value),
 (decide ((↑y.val : Int) < (↑len : Int)) = true → (same3_4 len a y) ∧ (addOpt a ((↑y.val : Int).toNat * 2)).isSome = true ∧ (∃ (x : Addr), addOpt (addOpt a ((↑y.val : Int).toNat *
 2)) #[Field.mk "H" 25 0 false "" "" 0, Field.mk "W" 32 1 false "" "" 8][0].offset = some x ∧ W.cell? x = some (Value.int .u64 (seenInt .u64 W (addOpt (addOpt a ((↑y.val : Int).toNat
 * 2)) 0)))) ∧ ((0 : Int) ≤ (↑y.val : Int) ∧ (↑y.val : Int) < (↑len2 : Int) ∧ b.isSome = true) ∧ (addOpt b ((↑y.val : Int).toNat * 2)).isSome = true ∧ (∃ (x : Addr), addOpt (addOpt b
 ((↑y.val : Int).toNat * 2)) #[Field.mk "H" 25 0 false "" "" 0, Field.mk "W" 32 1 false "" "" 8][0].offset = some x ∧ W.cell? x = some (Value.int .u64 (seenInt .u64 W (addOpt (addOpt
 b ((↑y.val : Int).toNat * 2)) 0)))) ∧ ((seenInt .u64 W (addOpt (addOpt a ((↑y.val : Int).toNat * 2)) 0) != seenInt .u64 W (addOpt (addOpt b ((↑y.val : Int).toNat * 2)) 0)) = true →
 (false = true ↔ len = len2 ∧ same3_3 len W a b) ∧ some W = some W) ∧ ((seenInt .u64 W (addOpt (addOpt a ((↑y.val : Int).toNat * 2)) 0) != seenInt .u64 W (addOpt (addOpt b ((↑y.val :
 Int).toNat * 2)) 0)) = false → (same3_4 len a y) ∧ (addOpt a ((↑y.val : Int).toNat * 2)).isSome = true ∧ (same3_1 a W y) ∧ ((0 : Int) ≤ (↑y.val : Int) ∧ (↑y.val : Int) < (↑len2 :
 Int) ∧ b.isSome = true) ∧ (addOpt b ((↑y.val : Int).toNat * 2)).isSome = true ∧ (∃ (x : Addr), same3_2 b W y x) ∧ (((↑(seenSli W (addOpt (addOpt a ((↑y.val : Int).toNat * 2))
 1)).snd.fst : Int) != (↑(seenSli W (addOpt (addOpt b ((↑y.val : Int).toNat * 2)) 1)).snd.fst : Int)) = true → (false = true ↔ len = len2 ∧ same3_3 len W a b) ∧ some W = some W) ∧
 (((↑(seenSli W (addOpt (addOpt a ((↑y.val : Int).toNat * 2)) 1)).snd.fst : Int) != (↑(seenSli W (addOpt (addOpt b ((↑y.val : Int).toNat * 2)) 1)).snd.fst : Int)) = false → (same3_4
 len a y) ∧ (addOpt a ((↑y.val : Int).toNat * 2)).isSome = true ∧ (same3_1 a W y) ∧ (∃ (y_1 : SK W a b y.val), a = a ∧ len = len ∧ cp = cp ∧ b = b ∧ len2 = len2 ∧ cp2 = cp2 ∧ (↑y.val
 : Int) = (↑y.val : Int) ∧ (↑len : Int) = (↑len : Int) ∧ (↑y.val : Int) = (↑y.val : Int) ∧ (↑(seenSli W (addOpt (addOpt a ((↑y.val : Int).toNat * 2)) 1)).snd.fst : Int) = (↑(seenSli
 W (addOpt (addOpt a ((↑y.val : Int).toNat * 2)) 1)).snd.fst : Int) ∧ W = W ∧ (↑y_1.val : Int) = (0 : Int) ∧ True) ∧ ∀ (y_1 : SK W a b y.val) (ρ : Nat → Value), (decide ((↑y_1.val :
 Int) < (↑(seenSli W (addOpt (addOpt a ((↑y.val : Int).toNat * 2)) 1)).snd.fst : Int)) = true → (same3_4 len a y) ∧ (addOpt a ((↑y.val : Int).toNat * 2)).isSome = true ∧ (same3_1 a W
 y) ∧ ((0 : Int) ≤ (↑y_1.val : Int) ∧ (↑y_1.val : Int) < (↑(seenSli W (addOpt (addOpt a ((↑y.val : Int).toNat * 2)) 1)).snd.fst : Int) ∧ (seenSli W (addOpt (addOpt a ((↑y.val :
 Int).toNat * 2)) 1)).fst.isSome = true) ∧ (∃ (x : Addr), addOpt (seenSli W (addOpt (addOpt a ((↑y.val : Int).toNat * 2)) #[Field.mk "H" 25 0 false "" "" 0, Field.mk "W" 32 1 false
 "" "" 8][1].offset)).fst (↑y_1.val : Int).toNat = some x ∧ W.cell? x = some (Value.int .u64 (seenInt .u64 W (addOpt (seenSli W (addOpt (addOpt a ((↑y.val : Int).toNat * 2)) 1)).fst
 (↑y_1.val : Int).toNat)))) ∧ ((0 : Int) ≤ (↑y.val : Int) ∧ (↑y.val : Int) < (↑len2 : Int) ∧ b.isSome = true) ∧ (addOpt b ((↑y.val : Int).toNat * 2)).isSome = true ∧ (∃ (x : Addr),
 same3_2 b W y x) ∧ ((0 : Int) ≤ (↑y_1.val : Int) ∧ (↑y_1.val : Int) < (↑(seenSli W (addOpt (addOpt b ((↑y.val : Int).toNat * 2)) 1)).snd.fst : Int) ∧ (seenSli W (addOpt (addOpt b
 ((↑y.val : Int).toNat * 2)) 1)).fst.isSome = true) ∧ (∃ (x : Addr), addOpt (seenSli W (addOpt (addOpt b ((↑y.val : Int).toNat * 2)) #[Field.mk "H" 25 0 false "" "" 0, Field.mk "W"
 32 1 false "" "" 8][1].offset)).fst (↑y_1.val : Int).toNat = some x ∧ W.cell? x = some (Value.int .u64 (seenInt .u64 W (addOpt (seenSli W (addOpt (addOpt b ((↑y.val : Int).toNat *
 2)) 1)).fst (↑y_1.val : Int).toNat)))) ∧ ((seenInt .u64 W (addOpt (seenSli W (addOpt (addOpt a ((↑y.val : Int).toNat * 2)) 1)).fst (↑y_1.val : Int).toNat) != seenInt .u64 W (addOpt
 (seenSli W (addOpt (addOpt b ((↑y.val : Int).toNat * 2)) 1)).fst (↑y_1.val : Int).toNat)) = true → (false = true ↔ len = len2 ∧ same3_3 len W a b) ∧ some W = some W) ∧ ((seenInt
 .u64 W (addOpt (seenSli W (addOpt (addOpt a ((↑y.val : Int).toNat * 2)) 1)).fst (↑y_1.val : Int).toNat) != seenInt .u64 W (addOpt (seenSli W (addOpt (addOpt b ((↑y.val : Int).toNat
 * 2)) 1)).fst (↑y_1.val : Int).toNat)) = false → ((-9223372036854775808 : Int) ≤ (↑y_1.val : Int) + (1 : Int) ∧ (↑y_1.val : Int) + (1 : Int) ≤ (9223372036854775807 : Int)) ∧ ∃ (y' :
 SK W a b y.val), (sl3 W a y.val).snd.fst - y'.val < (sl3 W a y.val).snd.fst - y_1.val ∧ a = a ∧ len = len ∧ cp = cp ∧ b = b ∧ len2 = len2 ∧ cp2 = cp2 ∧ (↑y.val : Int) = (↑y.val :
 Int) ∧ (↑len : Int) = (↑len : Int) ∧ (↑y.val : Int) = (↑y.val : Int) ∧ (↑(seenSli W (addOpt (addOpt a ((↑y.val : Int).toNat * 2)) 1)).snd.fst : Int) = (↑(seenSli W (addOpt (addOpt a
 ((↑y.val : Int).toNat * 2)) 1)).snd.fst : Int) ∧ W = W ∧ (↑y'.val : Int) = (↑y_1.val : Int) + (1 : Int) ∧ True)) ∧ (decide ((↑y_1.val : Int) < (↑(seenSli W (addOpt (addOpt a
 ((↑y.val : Int).toNat * 2)) 1)).snd.fst : Int)) = false → ((-9223372036854775808 : Int) ≤ (↑y.val : Int) + (1 : Int) ∧ (↑y.val : Int) + (1 : Int) ≤ (9223372036854775807 : Int)) ∧ ∃
 (y' : SY W a b len), len - y'.val < len - y.val ∧ a = a ∧ len = len ∧ cp = cp ∧ b = b ∧ len2 = len2 ∧ cp2 = cp2 ∧ (↑len : Int) = (↑len : Int) ∧ W = W ∧ (↑y'.val : Int) = (↑y.val :
 Int) + (1 : Int) ∧ True)))) ∧ (decide ((↑y.val : Int) < (↑len : Int)) = false → (true = true ↔ len = len2 ∧ same3_3 len W a b) ∧ some W = some W))) := by
  kernel_rfl
theorem same3_run (W : World) (a : Option Addr) (len cp : Nat) (b : Option Addr) (len2 cp2 : Nat) (hc : RowW W a len ∧ RowW W b len2) : Run (callN Try.prog ([] : List (Smry Try.prog XV)) (fun _ _ => false) 100 20 39 [.c (.sliv a false len cp), .c (.sliv b false len2 cp2)] ⟨[(0, .seen W)], 100⟩ (.both .nil (.inv (liveL [0, 1, 4, 13, 14]) ((List.range 1500).map (· + 1)) (SY W a b len) (fun _ y => ([(14, .c (.int false .i64 (y.1 : Int)))], [])) (fun y => len - y.1) fun y => .both (.both .nil (.both .nil (.inv (liveL [0, 1, 4, 5, 13, 14, 48, 49]) ((List.range 1500).map (· + 1)) (SK W a b y.1) (fun _ z => ([(49, .c (.int false .i64 (z.1 : Int)))], [])) (fun z => (sl3 W a y.1).2.1 - z.1) fun _ => .both (.both .nil .nil) .nil))) .nil)) (fun v m _ => retBS3 W (len = len2 ∧ ∀ j, j < len → EqB W a b j) v m)) := by
  constructor
  rw [same3_vc]
  delta same3_1 same3_2 same3_3 same3_4
  obtain ⟨h1, h2⟩ := hc
  have nf : ∀ {b : Bool} {p : Prop}, b = false → ¬ p → (b = true ↔ p) := fun hb hp => ⟨fun h => (by rw [hb] at h; cases h), fun h => absurd h hp⟩
  refine ⟨fun hne => ⟨nf rfl fun hp => ?_, rfl⟩, fun heq => ⟨⟨⟨0, Nat.zero_le _, fun j hj => absurd hj (Nat.not_lt_zero j)⟩, ?_⟩, fun y ρ => ⟨fun hlt => ?_, fun hge => ?_⟩⟩⟩
  · have := bne_iff_ne.1 hne
    exact this (by rw [hp.1])
  · repeat' first
      | with_reducible apply And.intro
      | with_reducible exact trivial
      | with_reducible exact Eq.refl _
      | exact rfl
  · obtain ⟨i, hi, hy⟩ := y
    have e12 : len = len2 := by have := bne_eq_false_iff_eq.1 heq; omega
    subst e12
    have hi' : i < len := by have := of_decide_eq_true hlt; dsimp only at this; omega
    obtain ⟨kH1, kS1, _⟩ := h1.row.at' i hi'
    obtain ⟨kH2, kS2, _⟩ := h2.row.at' i hi'
    have s1 : (addOpt a (i * 2)).isSome = true := by
      obtain ⟨x, hx, _⟩ := kH1
      cases e : addOpt a (i * 2) with
      | none => rw [e] at hx; cases hx
      | some _ => rfl
    have s2 : (addOpt b (i * 2)).isSome = true := by
      obtain ⟨x, hx, _⟩ := kH2
      cases e : addOpt b (i * 2) with
      | none => rw [e] at hx; cases hx
      | some _ => rfl
    have m1 := h1.row.sm (by omega)
    have m2 := h2.row.sm (by omega)
    obtain ⟨w1, w2⟩ := h1.ws i hi'
    obtain ⟨v1, v2⟩ := h2.ws i hi'
    have l1 : (sl3 W a i).2.1 = (seenSli W (addOpt (addOpt a (i * 2)) 1)).2.1 := rfl
    have l2 : (sl3 W b i).2.1 = (seenSli W (addOpt (addOpt b (i * 2)) 1)).2.1 := rfl
    have few := h1.row.few
    have e1 : sum3 (lens3 W a) (i + 1) = sum3 (lens3 W a) i + (sl3 W a i).2.1 := rfl
    have hm := sum3_mono (lens3 W a) (show i + 1 ≤ len from hi')
    have tot := h1.row.tot
    simp only [Int.toNat_natCast]
    refine ⟨⟨by omega, by omega, m1⟩, s1, kH1, ⟨by omega, by omega, m2⟩, s2, kH2, fun hH => ⟨nf rfl fun hp => ?_, (by first | exact trivial | exact rfl)⟩, fun hH => ⟨⟨by omega, by omega, m1⟩, s1, kS1, ⟨by omega, by omega, m2⟩, s2, kS2, fun hL => ⟨nf rfl fun hp => ?_, (by first | exact trivial | exact rfl)⟩, fun hL => ⟨⟨by omega, by omega, m1⟩, s1, kS1, ⟨⟨0, Nat.zero_le _, fun j hj => absurd hj (Nat.not_lt_zero j)⟩, ?_⟩, fun z ρ => ⟨fun hlt2 => ?_, fun hge2 => ?_⟩⟩⟩⟩
    · exact bne_iff_ne.1 hH (hp.2 i hi').1
    · exact bne_iff_ne.1 hL (congrArg (fun n : Nat => (n : Int)) (hp.2 i hi').2.1)
    · repeat' first
        | with_reducible apply And.intro
        | with_reducible exact trivial
        | with_reducible exact Eq.refl _
        | exact rfl
    · obtain ⟨k, hk, hz⟩ := z
      have hL' := bne_eq_false_iff_eq.1 hL
      have hk' : k < (sl3 W a i).2.1 := by have := of_decide_eq_true hlt2; dsimp only at this; omega
      have g1 : (seenSli W (addOpt (addOpt a (i * 2)) 1)).1.isSome = true := w1 (by omega)
      have g2 : (seenSli W (addOpt (addOpt b (i * 2)) 1)).1.isSome = true := v1 (by omega)
      refine ⟨⟨by omega, by omega, m1⟩, s1, kS1, ⟨by omega, Int.ofNat_lt.2 hk', g1⟩, w2 k hk', ⟨by omega, by omega, m2⟩, s2, kS2, ⟨by omega, Int.ofNat_lt.2 (show k < (sl3 W b i).2.1 by omega), g2⟩, v2 k (by omega), fun hW => ⟨nf rfl fun hp => ?_, (by first | exact trivial | exact rfl)⟩, fun hW => ⟨⟨by omega, ?_⟩, ⟨k + 1, hk', fun q hq => ?_⟩, ?_⟩⟩
      · exact bne_iff_ne.1 hW ((hp.2 i hi').2.2 k hk')
      · show (k : Int) + 1 ≤ 9223372036854775807
        omega
      · rcases Nat.lt_or_ge q k with h | h
        · exact hz q h
        · have : q = k := by omega
          subst this
          exact bne_eq_false_iff_eq.1 hW
      · repeat' first
          | with_reducible apply And.intro
          | with_reducible exact trivial
          | with_reducible exact Eq.refl _
          | exact rfl
          | (show (sl3 W a i).2.1 - (k + 1) < (sl3 W a i).2.1 - k; omega)
    · obtain ⟨k, hk, hz⟩ := z
      have hL' := bne_eq_false_iff_eq.1 hL
      have hk' : (sl3 W a i).2.1 ≤ k := by have := of_decide_eq_false hge2; dsimp only at this; omega
      refine ⟨⟨by omega, by omega⟩, ⟨i + 1, hi', fun j hj => ?_⟩, ?_⟩
      · rcases Nat.lt_or_ge j i with h | h
        · exact hy j h
        · have : j = i := by omega
          subst this
          exact ⟨bne_eq_false_iff_eq.1 hH, by omega, fun q hq => hz q (by omega)⟩
      · repeat' first
          | with_reducible apply And.intro
          | with_reducible exact trivial
          | with_reducible exact Eq.refl _
          | exact rfl
          | (show len - (i + 1) < len - i; omega)
  · have e12 : len = len2 := by have := bne_eq_false_iff_eq.1 heq; omega
    have := of_decide_eq_false hge
    exact ⟨⟨fun _ => ⟨e12, fun j hj => y.2.2 j (by omega)⟩, fun _ => rfl⟩, rfl⟩
end Go.Proofs.Ytnkikhhiaecebaa

/- The document's arena: two lists of blocks compared, as the executor takes it; what it says of rows of blocks. -/
namespace Go.Proofs.Ytnkikhhiaecebaa
open Go Go.RowKit
set_option maxRecDepth 100000
section
variable {E : EXT}
def same3S : Smry Try.prog E where
  g := 39
  run := fun args m K => match args with
    | [.c (.sliv a _ len _), .c (.sliv b _ len2 _)] => match m.hp.get 0 with
      | some (.seen W) => (RowW W a len ∧ RowW W b len2) ∧ ∀ r : Bool, (r = true ↔ len = len2 ∧ ∀ j, j < len → EqB W a b j) → K (.c (.boo false r)) m
      | _ => Stuck 873
    | _ => Stuck 874
  ok := fun args m K hr => by
    split at hr <;> try exact hr.elim
    rename_i a l1 len cp b l2 len2 cp2
    split at hr <;> try exact hr.elim
    rename_i W hW
    intro ν w R w0 H HK
    have ea : [SV.c (.sliv a l1 len cp), SV.c (.sliv b l2 len2 cp2)].map (SV.den ν) = [SV.c (.sliv a false len cp), SV.c (.sliv b false len2 cp2)].map (SV.den ν) := rfl
    rw [ea]
    refine (seen_calls (same3_run W a len cp b len2 cp2 hr.1) (fun v m h => ?_) (fun y hy => by
      simp only [List.mem_cons, List.not_mem_nil, or_false] at hy
      rcases hy with rfl | rfl <;> rfl) hW H HK).mono ?_
    · unfold retBS3 at h
      split at h
      · exact ⟨W, h.2, rfl⟩
      · exact h.elim
    · rintro e w' ⟨v, m', W', hv, hW', he, hs, hk⟩
      unfold retBS3 at hv
      split at hv
      · rename_i r
        obtain ⟨hb, hv⟩ := hv
        rw [hW'] at hv
        cases hv
        rw [set_same _ hW] at hs
        exact ⟨_, m, ν, hr.2 r hb, Agree.refl _ _, Nat.le_refl _, by rw [he]; rfl, hs, hk⟩
      · exact hv.elim
end
theorem WordsAt.word {W : World} {a : Option Addr} {ws : List Nat} (h : WordsAt W a ws) {k : Nat} (hk : k < ws.length) : Seen .u64 W (addOpt a k) ∧ seenInt .u64 W (addOpt a k) = ((ws[k] : Nat) : Int) := by
  obtain ⟨c, hu⟩ := h.at' k ws[k] (List.getElem?_eq_getElem hk)
  exact c.int (by show (0 : Int) ≤ _; omega) (by show _ ≤ (18446744073709551615 : Int); omega)
theorem BlkRow.rowW {W : World} {a : Option Addr} {len : Nat} {bs : List (Nat × List Nat)} (h : BlkRow W a len bs) (ht : tot3 bs ≤ 1000000000000) (hf : len ≤ 1000000) : RowW W a len := by
  refine ⟨h.row ht hf, fun j hj => ?_⟩
  obtain ⟨e, hw⟩ := h.slice hj
  have e : (sl3 W a j).2.1 = (blk3 bs j).2.length := e
  exact ⟨fun h0 => hw.sm (by omega), fun k hk => (hw.word (by omega)).1⟩
theorem EqB_iff {W : World} {a b : Option Addr} {n : Nat} {p q : List (Nat × List Nat)} (hp : BlkRow W a n p) (hq : BlkRow W b n q) {j : Nat} (hj : j < n) : EqB W a b j ↔ p[j]? = q[j]? := by
  rw [blk3_some (show j < p.length by rw [hp.num]; exact hj), blk3_some (show j < q.length by rw [hq.num]; exact hj)]
  have h1 : hd3 W a j = ((blk3 p j).1 : Nat) := hp.handle hj
  have h2 : hd3 W b j = ((blk3 q j).1 : Nat) := hq.handle hj
  obtain ⟨e1, w1⟩ := hp.slice hj
  obtain ⟨e2, w2⟩ := hq.slice hj
  have e1 : (sl3 W a j).2.1 = (blk3 p j).2.length := e1
  have e2 : (sl3 W b j).2.1 = (blk3 q j).2.length := e2
  constructor
  · rintro ⟨g1, g2, g3⟩
    have hl : (blk3 p j).2.length = (blk3 q j).2.length := by omega
    refine congrArg some (Prod.ext (by omega) (List.ext_getElem hl fun k k1 k2 => ?_))
    have g := g3 k (by omega)
    have a1 : wd3 W a j k = _ := (w1.word k1).2
    have a2 : wd3 W b j k = _ := (w2.word k2).2
    omega
  · intro h
    have h : blk3 p j = blk3 q j := Option.some.inj h
    refine ⟨by rw [h1, h2, h], by rw [e1, e2, h], fun k hk => ?_⟩
    have k1 : k < (blk3 p j).2.length := by omega
    have k2 : k < (blk3 q j).2.length := by rw [← h]; exact k1
    have a1 : wd3 W a j k = _ := (w1.word k1).2
    have a2 : wd3 W b j k = _ := (w2.word k2).2
    rw [a1, a2]
    congr 2
    simp only [h]
theorem same3_iff {W : World} {a b : Option Addr} {n m : Nat} {p q : List (Nat × List Nat)} (hp : BlkRow W a n p) (hq : BlkRow W b m q) : (n = m ∧ ∀ j, j < n → EqB W a b j) ↔ p = q := by
  constructor
  · rintro ⟨rfl, h⟩
    refine List.ext_getElem? fun j => ?_
    by_cases hj : j < n
    · exact (EqB_iff hp hq hj).1 (h j hj)
    · rw [List.getElem?_eq_none (by rw [hp.num]; omega), List.getElem?_eq_none (by rw [hq.num]; omega)]
  · rintro rfl
    have e : n = m := hp.num.symm.trans hq.num
    subst e
    exact ⟨rfl, fun j hj => (EqB_iff hp hq hj).2 rfl⟩
end Go.Proofs.Ytnkikhhiaecebaa

/- Two arenas against one another (layer 3): their blocks' words. -/
namespace Go.Proofs.Ytnkikhhiaecebaa
open Go Go.RowKit
set_option maxRecDepth 1000000
set_option maxHeartbeats 0
def XB : EXT where
  X := List Blk
  den := fun _ b x => mapAt b (x.map ent) * rowsAt x
  names := fun _ => []
  ren := fun _ x => x
  law := fun _ _ _ _ _ => rfl
  rlaw := fun _ _ _ _ => rfl
def eqR (n m : Nat) (f g : Nat → Int) : Bool := (n == m) && (List.range n).all fun j => f j == g j
theorem eqR_no {n m : Nat} {f g : Nat → Int} (h : n ≠ m) : eqR n m f g = false := by simp [eqR, h]
theorem eqR_diff {n m i : Nat} {f g : Nat → Int} (h : i < n) (hf : f i ≠ g i) : eqR n m f g = false := by
  unfold eqR
  rw [Bool.and_eq_false_iff]
  right
  rw [List.all_eq_false]
  exact ⟨i, List.mem_range.2 h, by simpa using hf⟩
theorem eqR_yes {n m : Nat} {f g : Nat → Int} (h : n = m) (hf : ∀ j, j < n → f j = g j) : eqR n m f g = true := by
  subst h
  simp only [eqR, beq_self_eq_true, Bool.true_and, List.all_eq_true, List.mem_range, beq_iff_eq]
  exact hf
abbrev EqY (n : Nat) (f g : Nat → Int) : Type := {i : Nat // i ≤ n ∧ ∀ j, j < i → f j = g j}
def eqS (n : Nat) (f g : Nat → Int) : Scr XB := .inv (liveL [0, 1, 4, 5, 12, 13]) [] (EqY n f g) (fun _ y => ([(13, .c (.int false .i64 (y.1 : Int)))], [])) (fun y => n - y.1) fun _ => bN 3
def alike_1 (n c : Nat) (f : Nat → Int) (m d : Nat) (g : Nat → Int) : Prop := (n = n ∧ c = c ∧ ∀ (i : Nat), i < n → f i = f i) ∧ (m = m ∧ d = d ∧ ∀ (i : Nat), i < m → g i = g i) ∧
 True
theorem alike_vc (h k : Int) (n m c d : Nat) (f g : Nat → Int) : (callN Try.prog ([] : List (Smry Try.prog XB)) (fun _ _ => false) 100 20 99 [.agg [.int false .u64 h, .sli 0 1 true 0 false n c], .agg [.int false .u64 k, .sli 1 1 true 0 false m d]] ⟨[(0, .ints 29 .u64 n c f), (1, .ints 29 .u64 m d g)], 100⟩ (.both (.both .nil (eqS n f g)) .nil) (fun v m' _ => outM (.c (.boo false (h == k && eqR n m f g))) [(0, .ints 29 .u64 n c f), (1, .ints 29 .u64 m d g)] v m')) = (
 ((h == k) = true → (((↑n : Int) != (↑m : Int)) = true → (h == k && eqR n m f g) = false ∧ alike_1 n c f m d g) ∧ (((↑n : Int) != (↑m : Int)) = false → (∃ (y : EqY n f g), 0 = 0 ∧ n
 = n ∧ c = c ∧ 0 = 0 ∧ m = m ∧ d = d ∧ (↑n : Int) = (↑n : Int) ∧ n = n ∧ c = c ∧ f = f ∧ m = m ∧ d = d ∧ g = g ∧ h = h ∧ 0 = 0 ∧ n = n ∧ c = c ∧ k = k ∧ 0 = 0 ∧ m = m ∧ d = d ∧
 (↑y.val : Int) = (0 : Int) ∧ True) ∧ ∀ (y : EqY n f g) (ρ : Nat → Value), (decide ((↑y.val : Int) < (↑n : Int)) = true → ((0 : Int) ≤ (↑y.val : Int) ∧ (↑y.val : Int) < (↑n : Int)) ∧
 addO true 0 (↑y.val : Int).toNat < n ∧ ((0 : Int) ≤ (↑y.val : Int) ∧ (↑y.val : Int) < (↑m : Int)) ∧ addO true 0 (↑y.val : Int).toNat < m ∧ ((f (addO true 0 (↑y.val : Int).toNat) !=
 g (addO true 0 (↑y.val : Int).toNat)) = true → (h == k && eqR n m f g) = false ∧ alike_1 n c f m d g) ∧ ((f (addO true 0 (↑y.val : Int).toNat) != g (addO true 0 (↑y.val :
 Int).toNat)) = false → ((-9223372036854775808 : Int) ≤ (↑y.val : Int) + (1 : Int) ∧ (↑y.val : Int) + (1 : Int) ≤ (9223372036854775807 : Int)) ∧ ∃ (y' : EqY n f g), n - y'.val < n -
 y.val ∧ 0 = 0 ∧ n = n ∧ c = c ∧ 0 = 0 ∧ m = m ∧ d = d ∧ (↑n : Int) = (↑n : Int) ∧ n = n ∧ c = c ∧ f = f ∧ m = m ∧ d = d ∧ g = g ∧ h = h ∧ 0 = 0 ∧ n = n ∧ c = c ∧ k = k ∧ 0 = 0 ∧ m =
 m ∧ d = d ∧ (↑y'.val : Int) = (↑y.val : Int) + (1 : Int) ∧ True)) ∧ (decide ((↑y.val : Int) < (↑n : Int)) = false → (h == k && eqR n m f g) = true ∧ alike_1 n c f m d g))) ∧ ((h ==
 k) = false → (h == k && eqR n m f g) = false ∧ alike_1 n c f m d g)) := by
  kernel_rfl
theorem alike_run (h k : Int) (n m c d : Nat) (f g : Nat → Int) (hc : n ≤ 100000 ∧ m ≤ 100000) : Run (callN Try.prog ([] : List (Smry Try.prog XB)) (fun _ _ => false) 100 20 99 [.agg [.int false .u64 h, .sli 0 1 true 0 false n c], .agg [.int false .u64 k, .sli 1 1 true 0 false m d]] ⟨[(0, .ints 29 .u64 n c f), (1, .ints 29 .u64 m d g)], 100⟩ (.both (.both .nil (eqS n f g)) .nil) (fun v m' _ => outM (.c (.boo false (h == k && eqR n m f g))) [(0, .ints 29 .u64 n c f), (1, .ints 29 .u64 m d g)] v m')) := by
  constructor
  rw [alike_vc]
  delta alike_1
  obtain ⟨hn, hm⟩ := hc
  refine ⟨fun h => ?_, fun h => ?_⟩
  · rw [h]
    simp only [Bool.true_and]
    clear h
    refine ⟨fun h => ⟨eqR_no (by have := bne_iff_ne.1 h; omega), ?_⟩, fun h => ?_⟩
    · repeat' (with_reducible first | assumption | apply And.intro | exact trivial | exact Eq.refl _ | exact fun _ _ => trivial | (intro i _; exact Eq.refl _))
    · have hnm : n = m := by
        have := bne_eq_false_iff_eq.1 h
        omega
      refine ⟨⟨⟨0, Nat.zero_le _, fun j hj => absurd hj (Nat.not_lt_zero j)⟩, ?_⟩, fun y ρ => ?_⟩
      · repeat' (with_reducible first | assumption | apply And.intro | exact trivial | exact Eq.refl _)
        exact rfl
      · obtain ⟨i, hi, hy⟩ := y
        simp only [addO_eq, Nat.zero_add, Int.toNat_natCast]
        refine ⟨fun h1 => ?_, fun h1 => ?_⟩
        · have h1 : i < n := by simpa using h1
          refine ⟨by omega, h1, by omega, by omega, fun h2 => ⟨eqR_diff h1 (by simpa using h2), ?_⟩, fun h2 => ⟨by omega, ⟨⟨i + 1, h1, fun j hj => ?_⟩, ?_⟩⟩⟩
          · repeat' (with_reducible first | assumption | apply And.intro | exact trivial | exact Eq.refl _ | exact fun _ _ => trivial | (intro i _; exact Eq.refl _))
          · have h2 : f i = g i := by simpa using h2
            rcases Nat.lt_succ_iff_lt_or_eq.1 hj with h3 | rfl
            · exact hy j h3
            · exact h2
          · repeat' (with_reducible first | assumption | apply And.intro | exact trivial | exact Eq.refl _)
            all_goals first | omega | (simp only []; omega)
        · have h1 : ¬ i < n := by simpa using h1
          refine ⟨eqR_yes hnm fun j hj => hy j (by omega), ?_⟩
          repeat' (with_reducible first | assumption | apply And.intro | exact trivial | exact Eq.refl _ | exact fun _ _ => trivial | (intro i _; exact Eq.refl _))
  · rw [h]
    simp only [Bool.false_and]
    repeat' (with_reducible first | assumption | apply And.intro | exact trivial | exact Eq.refl _ | exact fun _ _ => trivial | (intro i _; exact Eq.refl _))
end Go.Proofs.Ytnkikhhiaecebaa

/- Two arenas against one another (layer 3): all blocks, one by one. -/
namespace Go.Proofs.Ytnkikhhiaecebaa
open Go Go.RowKit
set_option maxRecDepth 100000

theorem bkF_u64s (l : List Nat) : intsOf .u64 l.length (bkF l) = u64s l := by
  unfold intsOf u64s
  rw [show (fun n : Nat => Value.int .u64 (n : Int)) = Value.int .u64 ∘ (fun n : Nat => (n : Int)) from rfl, ← List.map_map, ← bkF_map, List.map_map]
  rfl
theorem eqR_list (ws vs : List Nat) : eqR ws.length vs.length (bkF ws) (bkF vs) = (ws == vs) := by
  rw [Bool.eq_iff_iff, beq_iff_eq]
  constructor
  · intro h
    simp only [eqR, Bool.and_eq_true, beq_iff_eq, List.all_eq_true, List.mem_range] at h
    refine List.ext_getElem h.1 fun i h1 h2 => ?_
    have := h.2 i h1
    simp only [bkF, List.getD_eq_getElem?_getD, List.getElem?_eq_getElem h1, List.getElem?_eq_getElem h2, Option.getD_some] at this
    omega
  · rintro rfl
    exact eqR_yes rfl fun _ _ => rfl
theorem alike_any (h k : Nat) (ws vs : List Nat) (v1 v2 : Value) (w : World) {R : Assn} (H : Sat w (rowAt 29 v1 (u64s ws) * (rowAt 29 v2 (u64s vs) * R))) (hw : 1 ≤ ws.length ∧ ws.length ≤ 2048) (hv : 1 ≤ vs.length ∧ vs.length ≤ 2048) :
    Calls Try.prog 99 #[.agg #[.int .u64 h, v1], .agg #[.int .u64 k, v2]] w fun e w' => e = .returned (.bool (h == k && ws == vs)) ∧ Sat w' (rowAt 29 v1 (u64s ws) * (rowAt 29 v2 (u64s vs) * R)) ∧ Kept w w' := by
  have l1 : (u64s ws).length = ws.length := by simp [u64s]
  have l2 : (u64s vs).length = vs.length := by simp [u64s]
  rcases rowAt_open H with ⟨_, h0, _⟩ | ⟨g1, c1, cur1, rfl, a2, a3, a4, a5, H1⟩
  · rw [h0] at l1; simp at l1; omega
  rcases rowAt_open H.swap with ⟨_, h0, _⟩ | ⟨g2, c2, cur2, rfl, b2, b3, b4, b5, H2⟩
  · rw [h0] at l2; simp at l2; omega
  clear H1 H2 a5 b5
  rw [l1] at H ⊢
  rw [l2] at H ⊢
  have H1 := rowAt_head l1 H
  have H2 := rowAt_head l2 H1.swap
  have H3 : Sat w ((⟨[(0, .ints 29 .u64 ws.length c1 (bkF ws)), (1, .ints 29 .u64 vs.length c2 (bkF vs))], 100⟩ : Mem XB).hp.den (nu3 g1 g2 0) * R) := by
    refine H2.cast ?_
    simp only [SH.den, SO.den, nu3, bkF_u64s]
    rw [Assn.mul_comm _ (1 : Assn), Assn.one_mul]
    ac_rfl
  refine (callN_ok namesOk mixed _ _ _ _ _ _ _ _ _ (alike_run (h : Int) (k : Int) ws.length vs.length c1 c2 (bkF ws) (bkF vs) ⟨by omega, by omega⟩).out _ w R w H3 (Kept.refl w)).mono ?_
  rintro e w' ⟨v, m', s', ξ, ho, ag, _, he, hs, hk⟩
  obtain ⟨κ, agk, hv', hs⟩ := outM_sound ho hs
  have k0 : κ 0 = g1 := by rw [agk 0 (by decide), ag 0 (by show 0 < 100; decide)]; rfl
  have k1 : κ 1 = g2 := by rw [agk 1 (by decide), ag 1 (by show 1 < 100; decide)]; rfl
  refine ⟨?_, ?_, hk⟩
  · rw [he, hv', eqR_list]
    have : ((h : Int) == (k : Int)) = (h == k) := by rw [Bool.eq_iff_iff, beq_iff_eq, beq_iff_eq]; omega
    rw [this]
    rfl
  · have h4 : Sat w' (rowHead g2 29 1 vs.length c2 (u64s vs) * (rowHead g1 29 1 ws.length c1 (u64s ws) * R)) := by
      refine hs.cast ?_
      simp only [SH.den, SO.den, k0, k1, bkF_u64s]
      rw [Assn.mul_comm _ (1 : Assn), Assn.one_mul]
      ac_rfl
    have h5 := head_rowAt l2 h4
    exact (head_rowAt l1 h5.swap)
def sameBs (xs ys : List Blk) : Bool := (xs.length == ys.length) && xs.all fun a => ys.any fun b => key3 a == key3 b
theorem look_blk {ys : List Blk} (hnd : (ys.map (·.n)).Nodup) {b : Blk} (hb : b ∈ ys) : look (ys.map ent) (b.n : Int) = some (.agg #[.int .u64 b.h, b.v]) := by
  rw [look_ent]
  induction ys with
  | nil => cases hb
  | cons a l ih =>
    simp only [List.map_cons, List.nodup_cons, List.mem_map] at hnd
    rw [List.find?_cons]
    by_cases e : a.n = b.n
    · rcases List.mem_cons.1 hb with rfl | hb'
      · simp
      · exact absurd ⟨b, hb', e.symm⟩ hnd.1
    · rw [beq_eq_false_iff_ne.2 e]
      rcases List.mem_cons.1 hb with rfl | hb'
      · exact absurd rfl e
      · exact ih hnd.2 hb'
theorem look_blk_none {ys : List Blk} {n : Nat} (h : ∀ b ∈ ys, b.n ≠ n) : look (ys.map ent) (n : Int) = none := by
  rw [look_ent]
  rw [List.find?_eq_none.2 fun b hb => by simpa using h b hb]
  rfl
theorem blks_perm {xs dbs : List Blk} (hap : (xs.map (·.n)).Nodup) (hp : (dbs.map ent).Perm (xs.map ent)) (hs : ∀ b ∈ dbs, b ∈ xs) : ∀ a ∈ xs, a ∈ dbs := by
  intro a ha
  have h1 : ent a ∈ dbs.map ent := hp.mem_iff.2 (List.mem_map.2 ⟨a, ha, rfl⟩)
  obtain ⟨b, hb, e⟩ := List.mem_map.1 h1
  have hn : b.n = a.n := by
    simp only [ent, Prod.mk.injEq] at e
    omega
  have := nodup_inj (f := Blk.n) hap (hs b hb) ha hn
  exact this ▸ hb
theorem run_len_blk (w : World) {R : Assn} {p : Nat} {l : List Blk} (h : Sat w (mapAt p (l.map ent) * R)) (ty : TypeId) : (Builtin.len_ #[170] ty #[.map (some p)]).run Try.prog w = .ok (.int .i64 (l.length : Int)) w := by
  obtain ⟨es, clock, hl, h5⟩ := mapAt_open h
  have hsz : es.size = l.length := by
    have := congrArg List.length hl.1
    simpa using this
  simp [Builtin.len_, run_underlying Try.underlying170, goInt, MapKept.run_getObj_map h5.block, Result.andThen, hsz]
set_option maxHeartbeats 3200000 in
theorem equal_func (pa pb : Nat) (xs ys : List Blk) (w : World) {R : Assn} (H : Sat w (mapAt pa (xs.map ent) * (rowsAt xs * (mapAt pb (ys.map ent) * (rowsAt ys * R))))) (ha : ∀ b ∈ xs, 1 ≤ b.ws.length ∧ b.ws.length ≤ 2048) (hb : ∀ b ∈ ys, 1 ≤ b.ws.length ∧ b.ws.length ≤ 2048)
    (hna : (xs.map (·.n)).Nodup) (hnb : (ys.map (·.n)).Nodup) (hla : xs.length ≤ 100000) (hlb : ys.length ≤ 100000) :
    Calls Try.prog 101 #[.map (some pa), .map (some pb), .func (.func 99) #[] #[]] w fun e w' =>
      e = .returned (.bool (sameBs xs ys)) ∧ Sat w' (mapAt pa (xs.map ent) * (rowsAt xs * (mapAt pb (ys.map ent) * (rowsAt ys * R)))) ∧ Kept w w' := by
  have hl1 := run_len_blk w H
  have hl2 := run_len_blk w (H.cast (Q := mapAt pb (ys.map ent) * (mapAt pa (xs.map ent) * (rowsAt xs * (rowsAt ys * R)))) (by ac_rfl))
  have HH := Lib.hid H
  by_cases hlen : xs.length = ys.length
  · have hd : ((xs.length : Int) != (ys.length : Int)) = false := by rw [hlen]; simp
    have HN := Lib.hid (And.intro hna hnb)
    have HA := Lib.hid (And.intro ha hb)
    clear H ha hb hna hnb
    go_enter Try.func101, Try.ntmps101
    go_wp2_with (at_range; refine wpList_range_at _ rfl (.tmp 16) 170 _ _ rfl Try.underlying170 pa (xs.map ent) rfl HH.out ?_; intro w5 hs5 hk5 hb5)
    have Hk5 := Lib.hid ((Kept.refl w).trans hk5)
    clear hk5 hb5
    generalize w.heap.size = r at *
    go_loopw [7, 8, 9, 10] (fun _ _ _ _ wr => ∃ dbs : List Blk, (∀ b ∈ dbs, b ∈ xs) ∧ (∀ a ∈ dbs, (ys.any fun b => key3 a == key3 b) = true) ∧ Kept w wr ∧
      Sat wr (rangingAt r pa (xs.map ent) (dbs.map ent) * (rowsAt xs * (mapAt pb (ys.map ent) * (rowsAt ys * R)))))
      (fun _ _ _ _ wr => rLeft wr pa r)
    case atStart => exact ⟨[], by simp, by simp, Hk5.out, hs5⟩
    case round =>
      obtain ⟨dbs, hsub, hmat, hk, hs⟩ := hrel
      go_wp2_with (at_next; refine wpList_next_at _ rfl (.tmp 17) rfl r pa (xs.map ent) (dbs.map ent) rfl hs ?_ ?_)
      · intro hperm
        have hall := blks_perm HN.out.1 hperm hsub
        have hres : sameBs xs ys = true := by
          unfold sameBs
          rw [Bool.and_eq_true, List.all_eq_true]
          exact ⟨by simpa using hlen, fun a ha => hmat a (hall a ha)⟩
        have hfin := rangingAt_map hs
        clear hs hs5
        go_wp2
        go_ret
        exact ⟨by rw [hres]; rfl, hfin, hk⟩
      · intro x v w6 a ha hent hs6 hk6 hz6 hlt6 hen6
        obtain ⟨l1, l2, hl12⟩ := List.append_of_mem ha
        have hrows := rows_mid l1 l2 a
        rw [← hl12] at hrows
        clear hl12
        have e1 : x = a.n ∧ v = .agg #[.int .u64 a.h, a.v] := by
          have := hent
          simp only [ent, Prod.mk.injEq] at this
          exact ⟨this.1.symm, this.2.symm⟩
        obtain ⟨rfl, rfl⟩ := e1
        have hs7 := hs6.cast (Q := rowAt 29 a.v (u64s a.ws) * (rangingAt r pa (xs.map ent) (dbs.map ent ++ [((a.n : Int), .agg #[.int .u64 a.h, a.v])]) * (rowsAt (l1 ++ l2) * (mapAt pb (ys.map ent) * (rowsAt ys * R))))) (by rw [hrows]; ac_rfl)
        obtain ⟨va, vn, vc, hv⟩ := rowAt_slice hs7
        rw [hv] at hs7 hen6
        have Hs7 := Lib.hid hs7
        have Hs6 := Lib.hid hs6
        have hleft := rLeft_eq hs
        rw [List.length_map, List.length_map] at hleft
        clear hs hs5 hs6 hs7 hz6
        go_wp2_with fail
        have Hs8 := Lib.hid (Hs7.out.alloc (.cells #[.int .u64 a.h, .slice va vn vc] 179))
        have Hk8 := Lib.hid ((hk.trans hk6).alloc (.cells #[.int .u64 a.h, .slice va vn vc] 179))
        generalize World.alloc w6 _ = w7 at *
        generalize w6.heap.size = y at *
        by_cases hex : ∃ b ∈ ys, b.n = a.n
        · obtain ⟨b, hb, hbn⟩ := hex
          obtain ⟨m1, m2, hm12⟩ := List.append_of_mem hb
          have hrows2 := rows_mid m1 m2 b
          rw [← hm12] at hrows2
          clear hm12
          have hs9 := Hs8.out.cast (Q := rowAt 29 b.v (u64s b.ws) * (own y (.cells #[.int .u64 a.h, .slice va vn vc] 179 (0, 0)) * (rowAt 29 (.slice va vn vc) (u64s a.ws) * (rangingAt r pa (xs.map ent) (dbs.map ent ++ [((a.n : Int), .agg #[.int .u64 a.h, .slice va vn vc])]) * (rowsAt (l1 ++ l2) * (mapAt pb (ys.map ent) * (rowsAt (m1 ++ m2) * R))))))) (by rw [hrows2]; ac_rfl)
          obtain ⟨ba, bn, bc, hbv⟩ := rowAt_slice hs9
          rw [hbv] at hs9
          have hlook : (Instr.lookup 170 (.map (some pb)) (.int .i64 (a.n : Int)) true).run Try.prog w7 = .ok (.tuple #[.agg #[.int .u64 b.h, .slice ba bn bc], .bool true]) w7 := by
            obtain ⟨es, clock, hl, h5⟩ := mapAt_open (hs9.cast (Q := mapAt pb (ys.map ent) * (rowAt 29 (.slice ba bn bc) (u64s b.ws) * (own y (.cells #[.int .u64 a.h, .slice va vn vc] 179 (0, 0)) * (rowAt 29 (.slice va vn vc) (u64s a.ws) * (rangingAt r pa (xs.map ent) (dbs.map ent ++ [((a.n : Int), .agg #[.int .u64 a.h, .slice va vn vc])]) * (rowsAt (l1 ++ l2) * (rowsAt (m1 ++ m2) * R))))))) (by ac_rfl))
            have := lookup_ok (P := Try.prog) h5.block hl Try.underlying170 Try.underlying3 (zero_block _) (a.n : Int)
            rw [← hbn, look_blk HN.out.2 hb, hbv] at this
            rw [← hbn]
            exact this
          have Hs9 := Lib.hid (hs9.alloc (.cells #[.int .u64 b.h, .slice ba bn bc] 179))
          have Hk9 := Lib.hid (Hk8.out.alloc (.cells #[.int .u64 b.h, .slice ba bn bc] 179))
          clear Hs8 hs9 Hs6 Hs7
          rw [hlook, Result.andThen_ok, Oper.upon_value]
          have d0 := Hs9.out.cell 0
          have d1 := Hs9.out.cell 1
          have e0 := (Hs9.out.cast (Q := own y (.cells #[.int .u64 a.h, .slice va vn vc] 179 (0, 0)) * (own w7.heap.size (.cells #[.int .u64 b.h, .slice ba bn bc] 179 (0, 0)) * (rowAt 29 (.slice ba bn bc) (u64s b.ws) * (rowAt 29 (.slice va vn vc) (u64s a.ws) * (rangingAt r pa (xs.map ent) (dbs.map ent ++ [((a.n : Int), .agg #[.int .u64 a.h, .slice va vn vc])]) * (rowsAt (l1 ++ l2) * (mapAt pb (ys.map ent) * (rowsAt (m1 ++ m2) * R)))))))) (by ac_rfl))
          have e1 := e0.cell 1
          have e0 := e0.cell 0
          simp only [List.getElem?_toArray, List.getElem?_cons_zero, List.getElem?_cons_succ] at d0 d1 e0 e1
          have Hal := Lib.hid (alike_any a.h b.h a.ws b.ws (.slice va vn vc) (.slice ba bn bc) _ (Hs9.out.cast (Q := rowAt 29 (.slice va vn vc) (u64s a.ws) * (rowAt 29 (.slice ba bn bc) (u64s b.ws) * (own y (.cells #[.int .u64 a.h, .slice va vn vc] 179 (0, 0)) * (own w7.heap.size (.cells #[.int .u64 b.h, .slice ba bn bc] 179 (0, 0)) * (rangingAt r pa (xs.map ent) (dbs.map ent ++ [((a.n : Int), .agg #[.int .u64 a.h, .slice va vn vc])]) * (rowsAt (l1 ++ l2) * (mapAt pb (ys.map ent) * (rowsAt (m1 ++ m2) * R)))))))) (by ac_rfl)) (HA.out.1 a ha) (HA.out.2 b hb))
          go_wp2_with fail
          refine (Hal.out).mono ?_; rintro e w10 ⟨rfl, hs10, hk10⟩
          have hfin : Sat w10 (rangingAt r pa (xs.map ent) ((dbs ++ [a]).map ent) * (rowsAt xs * (mapAt pb (ys.map ent) * (rowsAt ys * R)))) := by
            have h1 := (hs10.cast (Q := own y (.cells #[.int .u64 a.h, .slice va vn vc] 179 (0, 0)) * (own w7.heap.size (.cells #[.int .u64 b.h, .slice ba bn bc] 179 (0, 0)) * (rowAt 29 (.slice ba bn bc) (u64s b.ws) * (rowAt 29 (.slice va vn vc) (u64s a.ws) * (rangingAt r pa (xs.map ent) (dbs.map ent ++ [((a.n : Int), .agg #[.int .u64 a.h, .slice va vn vc])]) * (rowsAt (l1 ++ l2) * (mapAt pb (ys.map ent) * (rowsAt (m1 ++ m2) * R)))))))) (by ac_rfl)).right.right
            refine h1.cast ?_
            have e4 : (dbs ++ [a]).map ent = dbs.map ent ++ [((a.n : Int), .agg #[.int .u64 a.h, .slice va vn vc])] := by simp [ent, hv]
            rw [e4, hrows, hrows2, hv, hbv]
            ac_rfl
          have Hfin := Lib.hid hfin
          have Hkf := Lib.hid (Hk9.out.trans hk10)
          clear hs10 hk10 Hal Hs9 hfin
          cases hq : (a.h == b.h && a.ws == b.ws) with
          | false =>
            have hres : sameBs xs ys = false := by
              unfold sameBs
              rw [Bool.and_eq_false_iff]
              right
              rw [List.all_eq_false]
              refine ⟨a, ha, ?_⟩
              rw [Bool.not_eq_true, List.any_eq_false]
              intro c hc e
              have e := eq_of_beq e
              simp only [key3, Prod.mk.injEq] at e
              have : c = b := nodup_inj (f := Blk.n) HN.out.2 hc hb (by omega)
              subst this
              rw [e.2.1, e.2.2] at hq
              simp at hq
            have hfin2 := rangingAt_map Hfin.out
            go_wp2
            go_ret
            exact ⟨by rw [hres]; rfl, hfin2, Hkf.out⟩
          | true =>
            have hsub' : ∀ c ∈ dbs ++ [a], c ∈ xs := by
              intro c hc
              rcases List.mem_append.1 hc with hc | hc
              · exact hsub c hc
              · simp only [List.mem_singleton] at hc; exact hc ▸ ha
            have hmat' : ∀ c ∈ dbs ++ [a], (ys.any fun b => key3 c == key3 b) = true := by
              intro c hc
              rcases List.mem_append.1 hc with hc | hc
              · exact hmat c hc
              · simp only [List.mem_singleton] at hc
                subst hc
                rw [List.any_eq_true]
                simp only [Bool.and_eq_true, beq_iff_eq] at hq
                exact ⟨b, hb, by simp [key3, hbn, hq.1, hq.2]⟩
            have hm : rLeft w10 pa r < rLeft wr pa r := by
              rw [hleft, rLeft_eq Hfin.out]
              simp
              omega
            go_wp2
            go_roundw
            case rel => trace_state; exact ⟨dbs ++ [a], hsub', hmat', Hkf.out, Hfin.out⟩
            case measure => exact hm
        · have hlook : (Instr.lookup 170 (.map (some pb)) (.int .i64 (a.n : Int)) true).run Try.prog w7 = .ok (.tuple #[.agg #[.int .u64 0, .slice none 0 0], .bool false]) w7 := by
            obtain ⟨es, clock, hl, h5⟩ := mapAt_open (Hs8.out.cast (Q := mapAt pb (ys.map ent) * (own y (.cells #[.int .u64 a.h, .slice va vn vc] 179 (0, 0)) * (rowAt 29 (.slice va vn vc) (u64s a.ws) * (rangingAt r pa (xs.map ent) (dbs.map ent ++ [((a.n : Int), .agg #[.int .u64 a.h, .slice va vn vc])]) * (rowsAt (l1 ++ l2) * (rowsAt ys * R)))))) (by ac_rfl))
            have := lookup_ok (P := Try.prog) h5.block hl Try.underlying170 Try.underlying3 (zero_block _) (a.n : Int)
            rw [look_blk_none fun b hb e => hex ⟨b, hb, e⟩] at this
            exact this
          have hres : sameBs xs ys = false := by
            unfold sameBs
            rw [Bool.and_eq_false_iff]
            right
            rw [List.all_eq_false]
            refine ⟨a, ha, ?_⟩
            rw [Bool.not_eq_true, List.any_eq_false]
            intro b hb e
            have e := eq_of_beq e
            simp only [key3, Prod.mk.injEq] at e
            exact hex ⟨b, hb, e.1.symm⟩
          have hfin : Sat w7 (mapAt pa (xs.map ent) * (rowsAt xs * (mapAt pb (ys.map ent) * (rowsAt ys * R)))) := by
            have h1 := (Hs8.out.right.cast (Q := rangingAt r pa (xs.map ent) (dbs.map ent ++ [((a.n : Int), .agg #[.int .u64 a.h, .slice va vn vc])]) * (rowsAt xs * (mapAt pb (ys.map ent) * (rowsAt ys * R)))) (by rw [hrows, hv]; ac_rfl))
            exact rangingAt_map h1
          have Hfin := Lib.hid (hfin.alloc (.cells #[.int .u64 0, .slice none 0 0] 179))
          have hkf := Hk8.out.alloc (.cells #[.int .u64 0, .slice none 0 0] 179)
          clear Hs8 Hs7 Hs6 hfin
          rw [hlook, Result.andThen_ok, Oper.upon_value]
          go_wp2
          go_ret
          exact ⟨by rw [hres]; rfl, Hfin.out.right, hkf⟩
  · have hd : ((xs.length : Int) != (ys.length : Int)) = true := by rw [bne_iff_ne]; omega
    have hres : sameBs xs ys = false := by simp [sameBs, hlen]
    rw [hres]
    go_enter Try.func101, Try.ntmps101
    go_wp2
    go_ret
    exact ⟨rfl, HH.out, Kept.refl w⟩
end Go.Proofs.Ytnkikhhiaecebaa

/- The first blocks of no arena (layer 3's statements): none. -/
namespace Go.Proofs.Ytnkikhhiaecebaa
open Go Go.RowKit Go.Shelf
attribute [local go_sem] Oper.semAt_some

theorem clone_nil (w : World) : Calls Try.prog 29 #[.pointer none] w fun e w' => e = .returned (.pointer none) ∧ w = w' := by
  go_enter Try.func29, Try.ntmps29
  go_wp2
  go_ret
  exact ⟨rfl, rfl⟩
theorem all_nil_calls (w : World) {R : Assn} (H : Sat w R) :
    Calls Try.prog 97 #[.pointer none] w fun e w' => ∃ x, e = .returned (.func (.func 162) #[] #[.pointer (some ⟨x, 0, none⟩)]) ∧
      Sat w' (own x (.cells #[.pointer none] 25 (0, 0)) * R) ∧ Kept w w' := by
  have HC := Lib.hid (clone_nil w)
  have Hs := Lib.hid (H.alloc (.cells #[.pointer none] 25))
  clear H
  go_enter Try.func97, Try.ntmps97
  go_wp2_with fail
  refine (HC.out).mono ?_; rintro e w1 ⟨rfl, rfl⟩
  go_wp2
  go_ret
  exact ⟨_, rfl, Hs.out, (Kept.refl w).alloc _⟩
set_option maxHeartbeats 3200000 in
set_option maxRecDepth 100000 in
theorem all_nil_yields (n : Nat) (x : Nat) :
    Yields Fence.wide n Try.prog 162 #[.pointer (some ⟨x, 0, none⟩)] (fun b : Nat × List Nat × Value => #[.int .u64 b.1, b.2.2]) (fun b => rowAt 29 b.2.2 (u64s b.2.1)) (fun b => (b.1, b.2.1)) []
      (own x (.cells #[.pointer none] 25 (0, 0))) := by
  intro l J Jx w0 W hY hk0 hs0
  have Hs := Lib.hid hs0
  have Hk := Lib.hid hk0
  have c0 := (hs0.cast (Q := own x (.cells #[.pointer none] 25 (0, 0)) * J []) (by ac_rfl)).cell 0
  simp only [List.getElem?_toArray, List.getElem?_cons_zero] at c0
  clear hY hs0 hk0
  refine callsIn_of_wp Try.func162 rfl trivial ?_ rfl
  simp only [Try.ntmps162, List.size_toArray, List.length_cons, List.length_nil, Nat.reduceAdd, Nat.reduceSub, Array.replicate_succ, Array.replicate_zero, List.push_toArray, List.append_toArray, List.nil_append, List.cons_append]
  gi_wp2
  refine bodyPost_ret (results_none rfl _ _ _) rfl ?_
  exact ⟨⟨_, rfl⟩, Hk.out, .inl ⟨[], rfl, Hs.out.left⟩⟩
def nDone (b3 b5 : Nat) (most : Int) (R : Assn) (pre : List (Nat × List Nat × Value)) : Assn :=
  Assn.pure (pre = []) * (own b5 (.cells #[.slice none 0 0] 44 (0, 0)) * (own b3 (.cells #[.int .i64 most] 3 (0, 0)) * R))
def nStop (b3 b5 : Nat) (most : Int) (R : Assn) (_ : Code) (pre : List (Nat × List Nat × Value)) : Assn := Assn.pure False * nDone b3 b5 most R pre
set_option maxHeartbeats 3200000 in
set_option maxRecDepth 100000 in
theorem blocks_nil (most : Int) (w : World) {R : Assn} (H : Sat w R) :
    Calls Try.prog 27 #[.pointer none, .int .i64 most] w fun e w' => Kept w w' ∧ e = .returned (.slice none 0 0) ∧ Sat w' R := by
  refine (callsIn_wide (n := 12)).1 ?_
  have h1 : 1 ≤ 12 := by omega
  have HW : RowKit.Hid (Sat ((w.alloc (.cells #[.int .i64 most] 3)).alloc (.cells #[.slice none 0 0] 44))
      (own (w.heap.size + 1) (.cells #[.slice none 0 0] 44 (0, 0)) * (own w.heap.size (.cells #[.int .i64 most] 3 (0, 0)) * R))) := by
    have h2 := ((H.alloc (.cells #[.int .i64 most] 3)).alloc (.cells #[.slice none 0 0] 44))
    simp only [World.size_alloc] at h2
    exact h2
  have HWk : RowKit.Hid (Kept w ((w.alloc (.cells #[.int .i64 most] 3)).alloc (.cells #[.slice none 0 0] 44))) := ((Kept.refl w).alloc _).alloc _
  clear H
  refine callsIn_of_wp_marks Try.func27 rfl trivial ?_ rfl
  simp only [Try.ntmps27, List.size_toArray, List.length_cons, List.length_nil, Nat.reduceAdd, Nat.reduceSub, Array.replicate_succ, Array.replicate_zero, List.push_toArray, List.append_toArray, List.nil_append, List.cons_append]
  have hfA : Fence.wide.fn 97 := trivial
  gi_wp2_with (gi_at_call 97; refine CallsIn.mono (callsIn_wide.2 (all_nil_calls _ HW.out)) ?_; rintro e w1 ⟨x, rfl, hs1, hk1⟩)
  have Hk1 := Lib.hid (HWk.out.trans hk1)
  clear hk1 HWk HW
  generalize w.heap.size + 1 = b5 at *
  generalize w.heap.size = b3 at *
  refine wpIn_rangeFunc_sat rfl h1 (gf := 162) (lb := #[.pointer (some ⟨x, 0, none⟩)]) rfl trivial (enters_of Try.func162 (by kernel_rfl) rfl) (all_nil_yields 11 x) (fun _ => rfl) w Hk1.out
    (nDone b3 b5 most R) (nStop b3 b5 most R) (by
      unfold nDone
      rw [Assn.mul_assoc]
      refine Sat.mk_pure_mul rfl (hs1.cast ?_)
      ac_rfl)
    (fun y => { tmps := #[.pointer none, .int .i64 most, undef, .pointer (some ⟨b3, 0, none⟩), .slice none 0 0, .pointer (some ⟨b5, 0, none⟩), .int .u64 y.1, y.2.2, .pointer none, .func (.func 162) #[] #[.pointer (some ⟨x, 0, none⟩)], .int .u64 y.1, y.2.2, undef, undef, undef, undef, undef, undef, undef, undef, undef, undef, undef], defers := [] }) ?assign ?body ?done ?stop
  case assign =>
    intro l y W K hK
    gi_wp2
    exact hK
  case stop =>
    intro D c pre W hpre hk hs
    unfold nStop at hs
    have ha := hs.cast (Q := Assn.pure False * (own D (.deferred (some [])) * nDone b3 b5 most R pre)) (by ac_rfl)
    exact ha.pure_mul.1.elim
  case body =>
    intro l pre y Rf W hpre hk hs
    exfalso
    have h2 := hpre.length_le
    simp at h2
  case done =>
    intro D xs W hxs hk hs
    unfold nDone at hs
    have hs := hs.cast (Q := Assn.pure (xs = []) * (own D (.deferred (some [])) * (own b5 (.cells #[.slice none 0 0] 44 (0, 0)) * (own b3 (.cells #[.int .i64 most] 3 (0, 0)) * R)))) (by ac_rfl)
    obtain ⟨_, hs⟩ := hs.pure_mul
    have hKD := hs.block
    have c5 := hs.swap.cell 0
    simp only [List.getElem?_toArray, List.getElem?_cons_zero] at c5
    have hs7 := Lib.hid ((hs.put (.deferred none)).right.right.right)
    have hk7 := (hk.put D (.deferred none))
    clear hs
    gi_wp2
    refine ⟨by simp, .inl ⟨_, _, rfl, run_takeDeferred hKD, ?_⟩⟩
    exact ⟨_, results_tmp (t := 4) rfl _ _ _, hk7, rfl, hs7.out⟩
def nilRun (g : FuncId) (l : List SV) (m : Mem XP) (K : SV → Mem XP → Prop) : Prop := callN Try.prog ([] : List (Smry Try.prog XP)) (fun _ _ => false) 20 8 g (.c (.raw (.pointer none)) :: l) m .nil fun v m' _ => K v m'
set_option maxRecDepth 1000000 in
theorem nil_run {g : FuncId} {l : List SV} {m : Mem XP} {K : SV → Mem XP → Prop} (hr : nilRun g l m K) : Gives Try.prog g (.c (.raw (.pointer none)) :: l) m K := by
  intro ν w R w0 H HK
  refine (callN_ok namesOk mixed [] _ 20 8 g _ m _ _ hr ν w R w0 H HK).mono ?_
  rintro e w' ⟨v, m', s', μ, hk, ag, hn, he, hs, hk'⟩
  exact ⟨v, m', μ, hk, ag, hn, he, hs, hk'⟩
set_option maxRecDepth 1000000 in
def nilS (S : Smry Try.prog XP) : Smry Try.prog XP where
  g := S.g
  run := fun args m K => match args with
    | .c (.raw (.pointer none)) :: l => nilRun S.g l m K
    | _ => S.run args m K
  ok := fun args m K hr => by
    split at hr
    · exact nil_run hr
    · exact S.ok args m K hr
def blocksNS (S : Smry Try.prog XP) (hg : S.g = 27) : Smry Try.prog XP where
  g := 27
  run := fun args m K => match args with
    | [.c (.raw (.pointer none)), .c (.int _ .i64 _ _)] => K (.c .nls) m
    | _ => S.run args m K
  ok := fun args m K hr => by
    split at hr
    · intro ν w R w0 H HK
      rename_i l most b
      refine (blocks_nil most w (R := m.hp.den ν * R) H).mono ?_
      rintro e w' ⟨hk, he, hs⟩
      exact ⟨_, m, ν, hr, Agree.refl _ _, Nat.le_refl _, he, hs, HK.trans hk⟩
    · rw [← hg]; exact S.ok args m K hr
end Go.Proofs.Ytnkikhhiaecebaa

/- An arena against itself (layer 3): one block's words. -/
namespace Go.Proofs.Ytnkikhhiaecebaa
open Go Go.RowKit
set_option maxRecDepth 1000000
set_option maxHeartbeats 0
def eqS1 (n : Nat) : Scr XB := .inv (liveL [0, 1, 4, 5, 12, 13]) [] {i : Nat // i ≤ n} (fun _ y => ([(13, .c (.int false .i64 (y.1 : Int)))], [])) (fun y => n - y.1) fun _ => bN 3
theorem alikeS_vc (h : Int) (n c : Nat) (f : Nat → Int) : (callN Try.prog ([] : List (Smry Try.prog XB)) (fun _ _ => false) 100 20 99 [.agg [.int false .u64 h, .sli 0 1 true 0 false n c], .agg [.int false .u64 h, .sli 0 1 true 0 false n c]] ⟨[(0, .ints 29 .u64 n c f)], 100⟩ (.both (.both .nil (eqS1 n)) .nil) (fun v m' _ => outM (.c (.boo false true)) [(0, .ints 29 .u64 n c f)] v m')) = (
 ((h == h) = true → (((↑n : Int) != (↑n : Int)) = true → true = false ∧ (n = n ∧ c = c ∧ ∀ (i : Nat), i < n → f i = f i) ∧ True) ∧ (((↑n : Int) != (↑n : Int)) = false → (∃ (y : { i :
 Nat // i ≤ n }), 0 = 0 ∧ n = n ∧ c = c ∧ 0 = 0 ∧ n = n ∧ c = c ∧ (↑n : Int) = (↑n : Int) ∧ n = n ∧ c = c ∧ f = f ∧ h = h ∧ 0 = 0 ∧ n = n ∧ c = c ∧ h = h ∧ 0 = 0 ∧ n = n ∧ c = c ∧
 (↑y.val : Int) = (0 : Int) ∧ True) ∧ ∀ (y : { i : Nat // i ≤ n }) (ρ : Nat → Value), (decide ((↑y.val : Int) < (↑n : Int)) = true → ((0 : Int) ≤ (↑y.val : Int) ∧ (↑y.val : Int) <
 (↑n : Int)) ∧ addO true 0 (↑y.val : Int).toNat < n ∧ ((0 : Int) ≤ (↑y.val : Int) ∧ (↑y.val : Int) < (↑n : Int)) ∧ addO true 0 (↑y.val : Int).toNat < n ∧ ((f (addO true 0 (↑y.val :
 Int).toNat) != f (addO true 0 (↑y.val : Int).toNat)) = true → true = false ∧ (n = n ∧ c = c ∧ ∀ (i : Nat), i < n → f i = f i) ∧ True) ∧ ((f (addO true 0 (↑y.val : Int).toNat) != f
 (addO true 0 (↑y.val : Int).toNat)) = false → ((-9223372036854775808 : Int) ≤ (↑y.val : Int) + (1 : Int) ∧ (↑y.val : Int) + (1 : Int) ≤ (9223372036854775807 : Int)) ∧ ∃ (y' : { i :
 Nat // i ≤ n }), n - y'.val < n - y.val ∧ 0 = 0 ∧ n = n ∧ c = c ∧ 0 = 0 ∧ n = n ∧ c = c ∧ (↑n : Int) = (↑n : Int) ∧ n = n ∧ c = c ∧ f = f ∧ h = h ∧ 0 = 0 ∧ n = n ∧ c = c ∧ h = h ∧ 0
 = 0 ∧ n = n ∧ c = c ∧ (↑y'.val : Int) = (↑y.val : Int) + (1 : Int) ∧ True)) ∧ (decide ((↑y.val : Int) < (↑n : Int)) = false → true = true ∧ (n = n ∧ c = c ∧ ∀ (i : Nat), i < n → f i
 = f i) ∧ True))) ∧ ((h == h) = false → true = false ∧ (n = n ∧ c = c ∧ ∀ (i : Nat), i < n → f i = f i) ∧ True)) := by
  kernel_rfl
theorem alikeS_run (h : Int) (n c : Nat) (f : Nat → Int) (hc : n ≤ 100000) : Run (callN Try.prog ([] : List (Smry Try.prog XB)) (fun _ _ => false) 100 20 99 [.agg [.int false .u64 h, .sli 0 1 true 0 false n c], .agg [.int false .u64 h, .sli 0 1 true 0 false n c]] ⟨[(0, .ints 29 .u64 n c f)], 100⟩ (.both (.both .nil (eqS1 n)) .nil) (fun v m' _ => outM (.c (.boo false true)) [(0, .ints 29 .u64 n c f)] v m')) := by
  constructor
  rw [alikeS_vc]
  have hb : ∀ x : Int, (x == x) = true := fun x => beq_self_eq_true x
  have hbn : ∀ x : Int, (x != x) = false := fun x => bne_self_eq_false x
  simp only [hb, hbn, Bool.false_eq_true, Bool.true_eq_false, false_implies, true_implies, true_and, and_true, forall_const, eq_self]
  refine ⟨⟨⟨0, Nat.zero_le _⟩, ?_⟩, fun y => ?_⟩
  · repeat' (with_reducible first | assumption | apply And.intro | exact trivial | exact Eq.refl _)
    all_goals exact rfl
  · obtain ⟨i, hi⟩ := y
    simp only [addO_eq, Nat.zero_add, Int.toNat_natCast]
    refine ⟨fun h1 => ?_, fun h1 => ?_⟩
    · have h1 : i < n := by simpa using h1
      refine ⟨by omega, h1, by omega, h1, by omega, ⟨i + 1, h1⟩, ?_, ?_⟩
      · show n - (i + 1) < n - i; omega
      · show ((i + 1 : Nat) : Int) = (i : Int) + 1; omega
    · repeat' (with_reducible first | assumption | apply And.intro | exact trivial | exact Eq.refl _ | exact fun _ _ => trivial | (intro i _; exact Eq.refl _))
end Go.Proofs.Ytnkikhhiaecebaa
