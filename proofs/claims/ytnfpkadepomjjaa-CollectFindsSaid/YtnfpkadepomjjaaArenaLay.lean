/- arena.Lay of an arena of which nothing was freed. -/
import Derived.Deep.RegionHeld3
import Derived.Deep.DeepCutAuto
import Derived.StillTailTactics
import Derived.Test.YtnfpkadepomjjaaArenaSwap
set_option linter.all false
namespace Go.Proofs.Ytnfpkadepomjjaa
open Go.RowKit

theorem least_new (ps hi cap : Nat) (g : Option Addr) (w : World) (h0 : w.cell? ⟨ps, 0, none⟩ = some (.int .i64 65535)) (h1 : w.cell? ⟨ps, 1, none⟩ = some (.int .i64 hi)) (h2 : w.cell? ⟨ps, 2, none⟩ = some (.slice g 0 cap))
    (hz : w.frozen? ⟨ps, 1, none⟩ = false) (hh : hi < 65535) :
    Calls Try.prog 199 #[.pointer (some ⟨ps, 0, none⟩)] w fun e w' => e = .returned (.int .i64 ((hi : Int) + 1)) ∧ ∃ n, w' = (w.drewN n).setCell ⟨ps, 1, none⟩ (.int .i64 ((hi : Int) + 1)) := by
  have hlt : ((hi : Int) < 65535) := by omega
  go_enter Try.func199, Try.ntmps199
  go_wp2
  go_quiet (fail)
  go_wp2
  go_ret
  exact ⟨rfl, nq, rfl⟩

def Stk.take (S : Stk) : Stk := { S with high := S.high + 1, used := S.used ++ [S.high + 1] }
theorem stk_take (ps : Nat) (S : Stk) (w : World) {R : Assn} (H : Sat w (stkAt ps S * R)) (hb : S.back = []) (hh : S.high < 65535) (hn : S.high + 1 ∉ S.used) :
    Calls Try.prog 147 #[.pointer (some ⟨ps, 0, none⟩)] w fun e w' => e = .returned (.tuple #[.int .i64 ((S.high : Int) + 1), .int .i64 0]) ∧ Sat w' (stkAt ps S.take * R) ∧ Kept w w' := by
  obtain ⟨⟨pm, sv⟩, H1⟩ := H.ex_mul
  obtain ⟨g, cap, rfl⟩ : ∃ g cap, sv = .slice g 0 cap := by
    rw [hb] at H1
    have H2 := H1.cast (Q := rowAt 3 sv [] * (own ps (.cells #[.int .i64 65535, .int .i64 S.high, sv, .map (some pm)] 296 (0, 0)) * (mapAt pm (S.used.map fun n : Nat => ((n : Int), Value.int .i64 1)) * R))) (by simp only [intv, List.map_nil]; ac_rfl)
    rcases rowAt_open H2 with ⟨h, _, _⟩ | ⟨g, cap, cur, h, _, _, _, _, _⟩
    · exact ⟨_, _, h⟩
    · exact ⟨_, _, h⟩
  have H2 := H1.cast (Q := own ps (.cells #[.int .i64 65535, .int .i64 S.high, .slice g 0 cap, .map (some pm)] 296 (0, 0)) * (mapAt pm (S.used.map fun n : Nat => ((n : Int), Value.int .i64 1)) * (rowAt 3 (.slice g 0 cap) (intv S.back) * R))) (by ac_rfl)
  have HL := Lib.hid (least_new ps S.high cap g w (H2.cell 0) (H2.cell 1) (H2.cell 2) (H2.free 1) hh)
  have HH := Lib.hid H2
  clear H H1 H2
  have hS : S.take.used.map (fun n : Nat => ((n : Int), Value.int .i64 1)) = (S.used.map fun n : Nat => ((n : Int), Value.int .i64 1)) ++ [((S.high : Int) + 1, .int .i64 1)] := by simp [Stk.take]
  have hlk : look (S.used.map fun n : Nat => ((n : Int), Value.int .i64 1)) ((S.high : Int) + 1) = none := by
    simp only [look, Option.map_eq_none_iff, List.find?_eq_none]
    intro x hx
    obtain ⟨n, hn', rfl⟩ := List.mem_map.1 hx
    simp only [beq_iff_eq]
    intro e
    exact hn (by have : n = S.high + 1 := by omega
                 exact this ▸ hn')
  have HS := Lib.hid (And.intro hS hlk)
  clear hS hlk hn
  go_enter Try.func147, Try.ntmps147
  go_wp2_with fail
  refine HL.out.mono ?_; rintro e w1 ⟨rfl, n, rfl⟩
  have HS1 := (HH.out.draws n).set 1 (.int .i64 ((S.high : Int) + 1))
  have hc3 := HS1.cell 3
  simp at hc3
  obtain ⟨es, clock, hl, HM⟩ := mapAt_open HS1.swap
  have hlt := HM.lt
  have hmb := HM.block
  obtain ⟨w2, es', clock', hup, hl', hb', hoth, hk, hsz⟩ := update_new (P := Try.prog) hmb hl Try.underlying293 Try.underlying3 ((S.high : Int) + 1) (.int .i64 1) HS.out.2
  have HU := HM.upd hb' (fun i hi _ => hoth i hi)
  have HF := Lib.hid (And.intro HU (And.intro hl' hk))
  clear HM HS1 hl hmb hl' hoth hk hsz hb' HU
  generalize hhi : S.high = hi at *
  have hne0 : ((hi : Int) + 1 == 0) = false := by simp; omega
  go_wp2_with fail
  go_ret2
  obtain ⟨HU, hl', hk⟩ := HF.out
  refine ⟨by rw [hhi]; rfl, ?_, ((Kept.refl w).draws n |>.setCell _ _).trans hk⟩
  have HX := mapAt_shut hl' HU
  rw [← HS.out.1] at HX
  refine Sat.mk_ex_mul (pm, .slice g 0 cap) ?_
  refine HX.cast ?_
  simp only [Stk.take]
  rw [hhi]
  simp
  ac_rfl

def layH (A : Ar) : Nat := (A.births + 1) * 65536 + (A.s.high + 1)
def Ar.lay (A : Ar) (ws : List Nat) (v : Value) : Ar :=
  { A with used := A.used + ws.length, peak := max A.peak (A.used + ws.length), births := A.births + 1, s := A.s.take, bs := A.bs ++ [⟨A.s.high + 1, layH A, ws, v⟩], t := { A.t with lays := A.t.lays + 1 } }
theorem bs_le (bs : List Blk) (h : ∀ b ∈ bs, 1 ≤ b.ws.length) : bs.length ≤ (bs.map fun b => b.ws.length).sum := by
  induction bs with
  | nil => simp
  | cons b l ih =>
    have := ih fun c hc => h c (by simp [hc])
    have := h b (by simp)
    simp; omega
theorem ArInv.high_le {A : Ar} (hi : ArInv A) (hb : A.s.back = []) : A.s.high ≤ A.used := by
  have h1 := bs_le A.bs fun b hb => (hi.range b hb).2.2.2.2.2.1
  have h2 := hi.high
  rw [hb] at h2
  rw [hi.sum, h2]; simpa using h1
theorem ArInv.fresh {A : Ar} (hi : ArInv A) : A.s.high + 1 ∉ A.s.used := by
  intro h
  replace h := hi.nums.mem_iff.1 h
  obtain ⟨b, hb, e⟩ := List.mem_map.1 h
  have := (hi.range b hb).2.1
  omega
theorem ArInv.lay {A : Ar} (hi : ArInv A) {ws : List Nat} (v : Value) (h1 : 1 ≤ ws.length) (h2 : ws.length ≤ 2048) (hc : A.used + ws.length ≤ A.cap) (hb : A.s.back = []) (hbi : A.births < 268435455) (hw : ∀ x ∈ ws, x < TW) : ArInv (A.lay ws v) := by
  have hh := hi.high_le hb
  have hcap := hi.cap
  have hp := hi.peak
  refine { cap := hi.cap, used := hc, peak := ⟨Nat.le_max_right _ _, Nat.max_le.2 ⟨hp.2, hc⟩⟩, births := hbi, fixed := hi.fixed, nums := ?_, range := ?_, words := ?_, apart := ?_, births' := ?_, sum := ?_, backs := ?_, high := ?_, bnd := ?_, hmax := ?_ }
  · show (A.s.used ++ [A.s.high + 1]).Perm ((A.bs ++ [_]).map _)
    rw [List.map_append]
    exact hi.nums.append_right _
  · intro b hm
    simp only [Ar.lay, List.mem_append, List.mem_singleton] at hm
    simp only [Ar.lay, Stk.take]
    rcases hm with hm | rfl
    · have := hi.range b hm
      omega
    · simp only [layH]
      omega
  · intro b hm
    simp only [Ar.lay, List.mem_append, List.mem_singleton] at hm
    rcases hm with hm | rfl
    · exact hi.words b hm
    · exact hw
  · simp only [Ar.lay, List.map_append, List.map_cons, List.map_nil]
    rw [List.nodup_append]
    refine ⟨hi.apart, by simp, ?_⟩
    intro a ha b hb' e
    simp at hb'
    subst hb' e
    exact hi.fresh (hi.nums.mem_iff.2 ha)
  · simp only [Ar.lay, List.map_append, List.map_cons, List.map_nil]
    rw [List.nodup_append]
    refine ⟨hi.births', by simp, ?_⟩
    intro a ha b hb' e
    simp [layH] at hb'
    obtain ⟨c, hc', rfl⟩ := List.mem_map.1 ha
    have := (hi.range c hc').2.2.2.2.1
    omega
  · simp [Ar.lay, hi.sum]
  · simp [Ar.lay, Stk.take, hb]
  · have := hi.high
    simp [Ar.lay, Stk.take, hb] at this ⊢
    omega
  · simp [Ar.lay, Stk.take, hb]
  · simp only [Ar.lay, Stk.take]
    omega
end Go.Proofs.Ytnfpkadepomjjaa
