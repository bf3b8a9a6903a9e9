/- The walk of arena.Lay. -/
import Derived.Test.YtnfpkadepomjjaaArenaLay
set_option linter.all false
namespace Go.Proofs.Ytnfpkadepomjjaa
open Go.RowKit

set_option maxHeartbeats 1600000 in
set_option maxRecDepth 20000 in
theorem lay_any (p : Nat) (A : Ar) (ws : List Nat) (m : Nat) (hm : ws.length = m) (g : Addr) (cap : Nat) (w : World) {Q R : Assn} (H : Sat w (arAt p A * (Q * R))) (hQ : ∀ w R, Sat w (Q * R) → g.block < w.heap.size ∧ ∀ j u, (u64s ws)[j]? = some u → w.cell? (g.add j) = some u) (h1 : 1 ≤ ws.length) (h2 : ws.length ≤ 2048) (hc : A.used + ws.length ≤ A.cap)
    (hb : A.s.back = []) (hbi : A.births < 268435455) (hw : ∀ x ∈ ws, x < TW) :
    Calls Try.prog 71 #[.pointer (some ⟨p, 0, none⟩), .slice (some g) m cap] w fun e w' => e = .returned (.tuple #[.int .u64 (layH A : Nat), .int .i64 0]) ∧
      (∃ v', Sat w' (arAt p (A.lay ws v') * (Q * R))) ∧ Kept w w' := by
  obtain ⟨ps, pb, hi, H1⟩ := arAt_open H
  have hhi := hi.high_le hb
  have hcap := hi.cap
  have hus := hi.used
  have hfr := hi.fresh
  have HT := Lib.hid (fun n => stk_take ps A.s (w.drewN n) (Sat.draws H1.swap n) hb (by omega) hfr)
  have c0 := H1.cell 0
  have c1 := H1.cell 1
  have c4 := H1.cell 4
  have c14 := H1.cell 14
  simp [arCells] at c0 c1 c4 c14
  have HLay := Lib.hid (fun v => hi.lay v h1 h2 hc hb hbi hw)
  have Hcond := Lib.hid (And.intro h1 (And.intro h2 hc))
  rw [hm] at h1 h2 hc
  have hd3 : decide ((A.cap : Int) < (A.used : Int) + (m : Int)) = false := by simp; omega
  have hd4 : decide ((268435455 : Int) ≤ (A.births : Int)) = false := by simp; omega
  have hd1 : ((m : Int) == 0 || decide ((2048 : Int) < (m : Int))) = false := by simp; omega
  have HH := Lib.hid H1
  have HI := Lib.hid hi
  have Hm := Lib.hid hm
  have HHan : Hid (∀ w, Calls Try.prog 148 #[.int .u64 ((A.births : Int) + 1), .int .u64 ((A.s.high : Int) + 1)] w fun e w' => e = .returned (.tuple #[.int .u64 (layH A : Nat), .bool true]) ∧ w = w') := by
    intro w
    have h := handle_any (A.births + 1) (A.s.high + 1) w
    rw [show handleF (A.births + 1) (A.s.high + 1) = (layH A, true) from if_pos ⟨⟨by omega, by omega⟩, by omega, by omega⟩] at h
    simpa using h
  have hfr2 : ∀ x ∈ A.bs.map ent, x.1 ≠ ((A.s.high : Int) + 1) := by
    intro x hx e
    obtain ⟨b, hb', rfl⟩ := List.mem_map.1 hx
    have := (hi.range b hb').2.1
    simp only [ent] at e
    omega
  have HFr : Hid (look (A.bs.map ent) ((A.s.high : Int) + 1) = none) := by
    show look _ _ = none
    simp only [look, Option.map_eq_none_iff, List.find?_eq_none]
    intro x hx
    simpa using hfr2 x hx
  clear hfr2
  clear H H1 hfr hw hi
  clear hm
  go_enter Try.func71, Try.ntmps71
  go_wp2_with fail
  go_quiet (fail)
  go_wp2_with fail
  refine (HT.out nq).mono ?_; rintro e w1 ⟨rfl, hs1, hk1⟩
  have HS := Lib.hid hs1.swap
  have HK := Lib.hid hk1
  have d4 := hs1.swap.cell 4
  have z4 := hs1.swap.free 4
  simp [arCells] at d4
  clear hs1 hk1
  go_wp2_with fail
  refine (HHan.out _).mono ?_; rintro e w2 ⟨rfl, rfl⟩
  have hs2 := HS.out.set 4 (.int .u64 ((A.births : Int) + 1))
  have hk2 := (((Kept.refl w).draws nq).trans HK.out).setCell ⟨p, 4, none⟩ (.int .u64 ((A.births : Int) + 1))
  generalize w1.setCell ⟨p, 4, none⟩ (.int .u64 ((A.births : Int) + 1)) = w2 at *
  have e15 := hs2.cell 15
  have hpl := hs2.lt
  simp [arCells] at e15
  have hsQ := Sat.cast (Q := Q * (own p (.cells ((arCells A ps pb).setIfInBounds 4 (.int .u64 ((A.births : Int) + 1))) 173 (0, 0)) * (stkAt ps A.s.take * (mapAt pb (A.bs.map ent) * (rowsAt A.bs * R))))) hs2.drew (by ac_rfl)
  have HC := Lib.hid (clone_any g cap ws m w2.drew hsQ Hm.out (hQ _ _ hsQ).2 h1 h2 (hQ _ _ hsQ).1)
  clear hsQ
  have HM : Hid (∀ w3 v', Sat w3 (rowAt 25 v' (u64s ws) * (Q * (own p (.cells ((arCells A ps pb).setIfInBounds 4 (.int .u64 ((A.births : Int) + 1))) 173 (0, 0)) * (stkAt ps A.s.take * (mapAt pb (A.bs.map ent) * (rowsAt A.bs * R)))))) → Below w2.drew.heap.size w2.drew w3 →
      (∃ g' cap', v' = .slice (some ⟨g', 0, none⟩) m cap') ∧ w3.cell? ⟨p, 15, none⟩ = some (.map (some pb)) ∧ ∃ w4, (Instr.mapUpdate 171 (.map (some pb)) (.int .i64 ((A.s.high : Int) + 1)) (.agg #[.int .u64 (layH A : Nat), v'])).run Try.prog w3 = .ok () w4 ∧
        Sat w4 (own p (.cells ((arCells A ps pb).setIfInBounds 4 (.int .u64 ((A.births : Int) + 1))) 173 (0, 0)) * (stkAt ps A.s.take * (mapAt pb (A.bs.map ent ++ [((A.s.high : Int) + 1, .agg #[.int .u64 (layH A : Nat), v'])]) * (rowAt 25 v' (u64s ws) * (rowsAt A.bs * (Q * R)))))) ∧ Kept w w4 ∧ w4.cell? ⟨p, 15, none⟩ = some (.map (some pb))) := by
    intro w3 v' h3 hb3
    have h4 := h3.cast (Q := own p (.cells ((arCells A ps pb).setIfInBounds 4 (.int .u64 ((A.births : Int) + 1))) 173 (0, 0)) * (mapAt pb (A.bs.map ent) * (stkAt ps A.s.take * (rowAt 25 v' (u64s ws) * (rowsAt A.bs * (Q * R)))))) (by ac_rfl)
    obtain ⟨es, clock, hl, h5⟩ := mapAt_open h4.swap
    obtain ⟨w4, es', clock', hup, hl', hb', hoth, hk, hsz⟩ := update_new (P := Try.prog) h5.block hl Try.underlying171 Try.underlying3 ((A.s.high : Int) + 1) (.agg #[.int .u64 (layH A : Nat), v']) HFr.out
    have h6 := mapAt_shut hl' (h5.upd hb' (fun i hi _ => hoth i hi))
    have hsl : ∃ g' cap', v' = .slice (some ⟨g', 0, none⟩) m cap' := by
      have hlen : (u64s ws).length = m := by simp [u64s, Hm.out]
      rcases rowAt_open h3 with ⟨_, h, _⟩ | ⟨g', cap', cur, h, _⟩
      · rw [h] at hlen; simp at hlen; omega
      · rw [hlen] at h; exact ⟨_, _, h⟩
    have h7 := h6.cast (Q := own p (.cells ((arCells A ps pb).setIfInBounds 4 (.int .u64 ((A.births : Int) + 1))) 173 (0, 0)) * (stkAt ps A.s.take * (mapAt pb (A.bs.map ent ++ [((A.s.high : Int) + 1, .agg #[.int .u64 (layH A : Nat), v'])]) * (rowAt 25 v' (u64s ws) * (rowsAt A.bs * (Q * R)))))) (by ac_rfl)
    exact ⟨hsl, by simpa [arCells] using h4.cell 15, w4, hup, h7, (hk2.drew.below hb3).trans hk, by simpa [arCells] using h7.cell 15⟩
  have Hs2 := Lib.hid hs2
  clear hs2 hk2 HS HK HHan HT HFr
  generalize hlay : layH A = hh at *
  go_wp2
  go_cut [8] (fun s8 wc => s8 = .int .u64 (hh : Nat) ∧ ∃ v', Sat wc (own p (.cells ((arCells A ps pb).setIfInBounds 4 (.int .u64 ((A.births : Int) + 1))) 173 (0, 0)) * (stkAt ps A.s.take * (mapAt pb (A.bs.map ent ++ [((A.s.high : Int) + 1, .agg #[.int .u64 (hh : Nat), v'])]) * (rowAt 25 v' (u64s ws) * (rowsAt A.bs * (Q * R)))))) ∧ Kept w wc)
  case first =>
    go_region_held3 (fun w' => w'.cell? ⟨p, 15, none⟩ = some (.map (some pb)))
      (first | go_keep | assumption)
      (first | (go_at_call 109; refine (HC.out).mono ?_; rintro e w3 ⟨v', rfl, hs3, hb3⟩; obtain ⟨⟨g', cap', rfl⟩, k15, w4, hup, HS4, HK4, k15'⟩ := HM.out w3 v' hs3 hb3))
    all_goals (go_wp2_with fail; go_meet)
    all_goals case rel => exact ⟨rfl, _, HS4, HK4⟩
  case rest =>
    obtain ⟨rfl, v', HS4, HK4⟩ := hcut
    have d1 := HS4.cell 1
    have d2 := HS4.cell 2
    have d16 := HS4.cell 16
    have z1 := HS4.free 1
    have z2 := HS4.free 2
    have z16 := HS4.free 16
    simp [arCells] at d1 d2 d16
    have HSS := Lib.hid HS4
    have HKK := Lib.hid HK4
    have Hp := Lib.hid HI.out.peak
    have HFin : Hid (∀ pk : Int, pk = ((A.lay ws v').peak : Int) → Sat (((wc.setCell ⟨p, 1, none⟩ (.int .i64 ((A.used : Int) + (m : Int)))).setCell ⟨p, 2, none⟩ (.int .i64 pk)).setCell ⟨p, 16, none⟩ (.int .i64 (wrap64 (wr64 A.t.lays + 1)))) (arAt p (A.lay ws v') * (Q * R))) := by
      rintro pk rfl
      have S1 := ((HS4.set 1 (.int .i64 ((A.used : Int) + (m : Int)))).set 2 (.int .i64 ((A.lay ws v').peak : Int))).set 16 (.int .i64 (wrap64 (wr64 A.t.lays + 1)))
      refine arAt_shut (ps := ps) (pb := pb) (HLay.out v') (S1.cast ?_)
      have t1 : rowsAt (A.lay ws v').bs = rowAt 25 v' (u64s ws) * rowsAt A.bs := by
        have := rows_mid A.bs [] ⟨A.s.high + 1, layH A, ws, v'⟩
        simpa [Ar.lay] using this
      have t2 : (A.lay ws v').bs.map ent = A.bs.map ent ++ [((A.s.high : Int) + 1, .agg #[.int .u64 (hh : Nat), v'])] := by simp [Ar.lay, ent, hlay]
      have t3 : arCells (A.lay ws v') ps pb = (((((arCells A ps pb).setIfInBounds 4 (.int .u64 ((A.births : Int) + 1))).setIfInBounds 1 (.int .i64 ((A.used : Int) + (m : Int)))).setIfInBounds 2 (.int .i64 ((A.lay ws v').peak : Int))).setIfInBounds 16 (.int .i64 (wrap64 (wr64 A.t.lays + 1)))) := by
        rw [wr64_succ]
        simp [arCells, Ar.lay, Hm.out]
      rw [t1, t2, t3, show (A.lay ws v').s = A.s.take from rfl]
      ac_rfl
    have hpk1 : ((A.lay ws v').peak : Int) = max (A.peak : Int) ((A.used : Int) + (m : Int)) := by
      have : (A.lay ws v').peak = max A.peak (A.used + m) := by rw [← Hm.out]; rfl
      omega
    have hpk := Lib.hid hpk1
    clear hpk1
    clear HS4 HK4 c0 c1 c4 c14 e15 HC HM Hs2 HH z4 d4 hd1 hd3 hd4 hpl
    go_wp2_with fail
    have hL1 : (wc.setCell ⟨p, 1, none⟩ (.int .i64 ((A.used : Int) + (m : Int)))).cell? ⟨p, 1, none⟩ = some (.int .i64 ((A.used : Int) + (m : Int))) := by go_simp
    have hL2 : (wc.setCell ⟨p, 1, none⟩ (.int .i64 ((A.used : Int) + (m : Int)))).cell? ⟨p, 2, none⟩ = some (.int .i64 A.peak) := by go_simp
    refine wp_region_still_tail 12 (by kernel_rfl) (by kernel_rfl) ?_
    change wpStill _ _ (wc.setCell ⟨p, 1, none⟩ (.int .i64 ((A.used : Int) + (m : Int)))).drew _ _ _
    simp only [List.take_succ_cons, List.take_zero, List.drop_succ_cons, List.drop_zero]
    repeat still_step
    refine wpStill_nil ?_
    change wpList _ _ _ _ _ (wc.setCell ⟨p, 1, none⟩ (.int .i64 ((A.used : Int) + (m : Int)))).drew
    clear hL1 hL2
    go_wp2_with fail
    all_goals go_ret2
    all_goals refine ⟨by first | rfl | (rw [hlay]; rfl) | (rw [← hlay]; rfl) | (subst hlay; rfl) | (show _ = _; simp [hlay]), ⟨v', HFin.out _ (by rw [hpk.out]; omega)⟩, ?_⟩
    all_goals exact (((HKK.out.setCell _ _).setCell _ _).setCell _ _).drew
theorem lay_new (p : Nat) (A : Ar) (ws : List Nat) (m : Nat) (hm : ws.length = m) (v : Value) (w : World) {R : Assn} (H : Sat w (arAt p A * (rowAt 25 v (u64s ws) * R))) (h1 : 1 ≤ ws.length) (h2 : ws.length ≤ 2048) (hc : A.used + ws.length ≤ A.cap)
    (hb : A.s.back = []) (hbi : A.births < 268435455) (hw : ∀ x ∈ ws, x < TW) :
    Calls Try.prog 71 #[.pointer (some ⟨p, 0, none⟩), v] w fun e w' => e = .returned (.tuple #[.int .u64 (layH A : Nat), .int .i64 0]) ∧
      (∃ v', Sat w' (arAt p (A.lay ws v') * (rowAt 25 v (u64s ws) * R))) ∧ Kept w w' := by
  obtain ⟨g, cap, rfl⟩ : ∃ g cap, v = .slice (some ⟨g, 0, none⟩) m cap := by
    have H2 := H.swap
    have hlen : (u64s ws).length = ws.length := by simp [u64s]
    rcases rowAt_open H2 with ⟨_, h, _⟩ | ⟨g, cap, cur, h, _⟩
    · rw [h] at hlen; simp at hlen; omega
    · rw [hlen, hm] at h; exact ⟨_, _, h⟩
  refine lay_any p A ws m hm ⟨g, 0, none⟩ cap w H (fun w R h => ?_) h1 h2 hc hb hbi hw
  have hlen : (u64s ws).length = m := by simp [u64s, hm]
  rcases rowAt_open h with ⟨h', _, _⟩ | ⟨g', cap', cur, he, h2', h3, h4, h5, h6⟩
  · cases h'
  · simp only [Value.slice.injEq, Option.some.injEq, Addr.mk.injEq] at he
    obtain ⟨⟨rfl, _⟩, _⟩ := he
    refine ⟨h6.lt, fun j u hj => ?_⟩
    have e : ((⟨g, 0, none⟩ : Addr).add j) = ⟨g, j, none⟩ := by (by_cases h0 : j = 0) <;> simp [Addr.add, h0]
    rw [e]
    exact row_cell h6 h5 j u hj
end Go.Proofs.Ytnfpkadepomjjaa
