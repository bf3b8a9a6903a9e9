/- A copy of an arena. -/
import Derived.Test.YtnfpkadepomjjaaCloB
import Derived.Test.YtnfpkadepomjjaaBaseB
import Derived.Test.YtnfpkadepomjjaaBaseArD
set_option linter.all false
namespace Go.Proofs.Ytnfpkadepomjjaa
open Go.RowKit

theorem valSetAll_eq : ∀ (vs cs : List Value) (o : Nat), cs.length = o + vs.length → valSetAll cs o vs = cs.take o ++ vs
  | [], cs, o, h => by simp only [valSetAll, List.append_nil]; rw [List.take_of_length_le (by simp at h; omega)]
  | v :: vs, cs, o, h => by
    simp only [List.length_cons] at h
    simp only [valSetAll]
    rw [valSetAll_eq vs _ (o + 1) (by simp; omega)]
    have ho : o < cs.length := by omega
    rw [List.take_set, List.take_succ_eq_append_getElem ho, List.set_append_right _ _ (by simp; omega)]
    simp [Nat.min_eq_left (Nat.le_of_lt ho)]
def key3 (b : Blk) : Nat × Nat × List Nat := (b.n, b.h, b.ws)
/-- An arena's copy: the same but for the blocks' order and the rows that hold their words. -/
def cloAt (p : Nat) (A : Ar) (bs : List Blk) : Assn := Assn.ex fun d : Nat × Nat =>
  own p (.cells (arCells A d.1 d.2) 173 (0, 0)) * (stkAt d.1 A.s * (mapAt d.2 (bs.map ent) * rowsAt bs))
theorem dbs_perm {A : Ar} (hi : ArInv A) {dbs : List Blk} (hs : ∀ b ∈ dbs, b ∈ A.bs) (hp : (dbs.map ent).Perm (A.bs.map ent)) : dbs.Perm A.bs := by
  have hn : (dbs.map (·.n)).Perm (A.bs.map (·.n)) := by
    have := hp.map fun x : Int × Value => x.1.toNat
    simpa [List.map_map, Function.comp_def, ent] using this
  have hnd : (dbs.map (·.n)).Nodup := hn.nodup_iff.2 hi.apart
  have hnd1 : dbs.Nodup := List.Pairwise.of_map _ (fun a b (h : a.n ≠ b.n) e => h (congrArg Blk.n e)) hnd
  have hnd2 : A.bs.Nodup := List.Pairwise.of_map _ (fun a b (h : a.n ≠ b.n) e => h (congrArg Blk.n e)) hi.apart
  refine (List.perm_ext_iff_of_nodup hnd1 hnd2).2 fun b => ⟨hs b, fun hb => ?_⟩
  obtain ⟨c, hc, e⟩ := List.mem_map.1 (hn.mem_iff.2 (List.mem_map.2 ⟨b, hb, rfl⟩))
  have h1 := hi.range b hb
  have h2 := hi.range c (hs c hc)
  have hap := hi.apart
  have : c = b := by
    have h3 := hs c hc
    generalize A.bs = bs at hap hb h3
    induction bs with
    | nil => cases hb
    | cons a l ih =>
      simp only [List.map_cons, List.nodup_cons, List.mem_map] at hap
      rcases List.mem_cons.1 hb with rfl | hb'
      · rcases List.mem_cons.1 h3 with rfl | h3'
        · rfl
        · exact absurd ⟨c, h3', e⟩ hap.1
      · rcases List.mem_cons.1 h3 with rfl | h3'
        · exact absurd ⟨b, hb', e.symm⟩ hap.1
        · exact ih hap.2 hb' h3'
  exact this ▸ hc

set_option maxHeartbeats 3200000 in
set_option maxRecDepth 100000 in
theorem ar_clone (p : Nat) (A : Ar) (w : World) {R : Assn} (H : Sat w (arAt p A * R)) (hl : A.s.back.length ≤ 70000) :
    Calls Try.prog 82 #[.pointer (some ⟨p, 0, none⟩)] w fun e w' => ∃ q bs, e = .returned (.pointer (some ⟨q, 0, none⟩)) ∧ (bs.map key3).Perm (A.bs.map key3) ∧ Sat w' (cloAt q A bs * (arAt p A * R)) ∧ Kept w w' := by
  obtain ⟨ps, pb, hi, H1⟩ := arAt_open H
  have HH := Lib.hid H1
  have HI := Lib.hid hi
  have hb := H1.block
  have c14 := H1.cell 14
  have c15 := H1.cell 15
  simp [arCells] at c14 c15
  have hlt := H1.lt
  have hinfo : (Try.prog.info? 173).map (·.size) = some (arCells A ps pb).size := by
    rw [show (arCells A ps pb).size = 22 from rfl]; kernel_rfl
  have Hst := Lib.hid H1
  obtain ⟨X, hX⟩ : ∃ X, X = arCells A ps pb := ⟨_, rfl⟩
  have hXs : X.size = 22 := by rw [hX]; rfl
  have hX1 : X.all (·.oneCell') = true := by rw [hX]; simp [arCells, Value.oneCell']
  rw [← hX] at hb hinfo Hst
  have hx14 : X[14]? = some (.pointer (some ⟨ps, 0, none⟩)) := by rw [hX]; rfl
  have hx15 : X[15]? = some (.map (some pb)) := by rw [hX]; rfl
  have HX := Lib.hid hX
  have Hst := Lib.hid Hst.out
  obtain ⟨Z, hZ⟩ : ∃ Z : Array Value, Z = #[Value.int .i64 0, .int .i64 0, .int .i64 0, .int .i64 0, .int .u64 0, .int .u64 0, .int .u64 0, .int .u64 0, .int .u64 0, .int .u64 0, .int .u64 0, .int .u64 0, .int .u64 0, .int .u64 0, .pointer none, .map none, .int .i64 0, .int .i64 0, .int .i64 0, .int .i64 0, .int .i64 0, .int .i64 0] := ⟨_, rfl⟩
  have hZs : Z.size = 22 := by rw [hZ]; rfl
  have Hst2 : Hid (Sat ((w.alloc (.cells Z 173)).setCells w.heap.size 0 X.toList) (own w.heap.size (.cells X 173 (0, 0)) * (own p (.cells X 173 (0, 0)) * (stkAt ps A.s * (mapAt pb (A.bs.map ent) * (rowsAt A.bs * R)))))) := by
    have h1 := Hst.out.alloc (.cells Z 173)
    have h2 := Sat.setCells X.toList Z.toList 0 _ (by simpa using h1)
    refine h2.cast ?_
    rw [valSetAll_eq X.toList Z.toList 0 (by simp [hZs, hXs]), List.take_zero, List.nil_append, Array.toArray_toList]
  have Hk2 : Hid (Kept w ((w.alloc (.cells Z 173)).setCells w.heap.size 0 X.toList)) := Kept.setCells _ _ _ ((Kept.refl w).alloc _)
  have Hth : Hid ((w.alloc (.cells Z 173)).there w.heap.size 0 X.size) := by
    intro j hj
    have h1 := Hst.out.alloc (.cells Z 173)
    have hj' : j < Z.size := by omega
    rw [h1.cell, h1.free]
    simp [hj']
  have HZ := Lib.hid hZ
  clear H H1 hX
  rw [hZ] at Hst2 Hk2 Hth
  go_enter Try.func82, Try.ntmps82
  go_wp2_with (first | (refine wpList_load_row rfl 173 (.tmp 9) rfl p rfl 173 X (0, 0) _ hb Try.underlying173 rfl hinfo ?_) | (refine wpList_store_mid rfl 173 (.tmp 3) (.tmp 10) rfl w.heap.size 0 X rfl rfl Hth.out hinfo hX1 ?_; generalize hw2 : World.setCells _ _ _ _ = w2; rw [hw2] at Hst2 Hk2; clear hw2 Hth c14 c15 hb; have c14 := Hst2.out.swap.cell 14; rw [hx14] at c14))
  have hmm := @run_makeMap Try.prog
  have Hs3 := Hst2.out.cast (Q := stkAt ps A.s * (own w.heap.size (.cells X 173 (0, 0)) * (own p (.cells X 173 (0, 0)) * (mapAt pb (A.bs.map ent) * (rowsAt A.bs * R))))) (by ac_rfl)
  clear Hst Hst2 HZ hZ
  generalize w.heap.size = q at *
  refine (stk_clone ps A.s w2 Hs3 hl).mono ?_; rintro e w3 ⟨pc, rfl, hs3, hk3⟩
  have hs3 := hs3.cast (Q := own q (.cells X 173 (0, 0)) * (own p (.cells X 173 (0, 0)) * (stkAt pc A.s * (stkAt ps A.s * (mapAt pb (A.bs.map ent) * (rowsAt A.bs * R)))))) (by ac_rfl)
  have c15 := hs3.swap.cell 15
  have y14 := hs3.cell 14
  have y15 := hs3.cell 15
  have z14 := hs3.free 14
  have z15 := hs3.free 15
  rw [hx15] at c15 y15
  rw [hx14] at y14
  have hq3 := hs3.lt
  have hp3 := hs3.swap.lt
  have hqp := hs3.ne
  have Hs4 : Hid (Sat (((w3.setCell ⟨q, 14, none⟩ (.pointer (some ⟨pc, 0, none⟩))).setCell ⟨q, 15, none⟩ (.map (some w3.heap.size))).alloc (.map #[] 0))
      (mapAt pb (A.bs.map ent) * (own q (.cells (arCells A pc w3.heap.size) 173 (0, 0)) * (stkAt pc A.s * (mapAt w3.heap.size (([] : List Blk).map ent) * (rowsAt [] * (own p (.cells X 173 (0, 0)) * (stkAt ps A.s * (rowsAt A.bs * R))))))))) := by
    have h1 := ((hs3.set 14 (.pointer (some ⟨pc, 0, none⟩))).set 15 (.map (some w3.heap.size))).alloc (.map #[] 0)
    have e1 : ((X.setIfInBounds 14 (.pointer (some ⟨pc, 0, none⟩))).setIfInBounds 15 (.map (some w3.heap.size))) = arCells A pc w3.heap.size := by rw [HX.out]; simp [arCells]
    rw [e1] at h1
    simp only [World.size_setCell] at h1
    have h2 := mapAt_shut mapL_nil h1
    refine h2.cast ?_
    show _ = _ * (_ * (_ * (mapAt _ [] * (1 * _))))
    rw [Assn.one_mul]
    ac_rfl
  have Hk4 : Hid (Kept w (((w3.setCell ⟨q, 14, none⟩ (.pointer (some ⟨pc, 0, none⟩))).setCell ⟨q, 15, none⟩ (.map (some w3.heap.size))).alloc (.map #[] 0))) := (((Hk2.out.trans hk3).setCell ⟨q, 14, none⟩ (.pointer (some ⟨pc, 0, none⟩))).setCell _ _).alloc _
  clear hs3 hk3 Hk2 hinfo hX1
  go_wp2_with (at_range; refine wpList_range_at _ rfl (.tmp 22) 171 _ _ rfl Try.underlying171 pb (A.bs.map ent) rfl Hs4.out ?_; intro w5 hs5 hk5 hb5)
  have Hk5 := Lib.hid (Hk4.out.trans hk5)
  clear Hs4 Hk4 c15 y14 y15 z14 z15 hk5 hb5 hmm
  generalize Array.size (World.heap (World.alloc _ _)) = r at *
  generalize w3.heap.size = pq at *
  go_frame
  clear Hst hXs hx14 hx15 Hs3 hs3 c14
  go_loopw [4, 5] (fun _ _ wr => ∃ (dbs bs : List Blk), (∀ b ∈ dbs, b ∈ A.bs) ∧ bs.map key3 = dbs.map key3 ∧ Kept w wr ∧
      Sat wr (rangingAt r pb (A.bs.map ent) (dbs.map ent) * (own q (.cells (arCells A pc pq) 173 (0, 0)) * (stkAt pc A.s * (mapAt pq (bs.map ent) * (rowsAt bs * (own p (.cells X 173 (0, 0)) * (stkAt ps A.s * (rowsAt A.bs * R)))))))))
    (fun _ _ wr => rLeft wr pb r)
  case atStart => exact ⟨[], [], by simp, rfl, Hk5.out, hs5⟩
  case round =>
    obtain ⟨dbs, bs, hsub, hkey, hk, hs⟩ := hrel
    go_wp2_with (at_next; refine wpList_next_at _ rfl (.tmp 23) rfl r pb (A.bs.map ent) (dbs.map ent) rfl hs ?_ ?_)
    · intro hperm
      have hd := dbs_perm HI.out hsub hperm
      have hfin : Sat wr (cloAt q A bs * (arAt p A * R)) := by
        have h1 := rangingAt_map hs
        refine Sat.mk_ex_mul (pc, pq) ?_
        refine Sat.cast (P := arAt p A * (own q (.cells (arCells A pc pq) 173 (0, 0)) * (stkAt pc A.s * (mapAt pq (bs.map ent) * rowsAt bs)) * R)) ?_ (by ac_rfl)
        refine arAt_shut (ps := ps) (pb := pb) HI.out ?_
        rw [← HX.out]
        exact h1.cast (by ac_rfl)
      have hkf : (bs.map key3).Perm (A.bs.map key3) := by rw [hkey]; exact hd.map key3
      clear hs hs5
      go_wp2
      go_ret
      exact ⟨q, bs, rfl, hkf, hfin, hk⟩
    · intro x v w6 b hb hent hs6 hk6 hz6 hlt6 hen6
      obtain ⟨l1, l2, hl12⟩ := List.append_of_mem hb
      have hrows := rows_mid l1 l2 b
      rw [← hl12] at hrows
      have e1 : x = b.n ∧ v = .agg #[.int .u64 b.h, b.v] := by
        have := hent
        simp only [ent, Prod.mk.injEq] at this
        exact ⟨this.1.symm, this.2.symm⟩
      obtain ⟨rfl, rfl⟩ := e1
      obtain ⟨va, vn, vc, hv⟩ := rowAt_slice (hs6.cast (Q := rowAt 25 b.v (u64s b.ws) * (rangingAt r pb (A.bs.map ent) (dbs.map ent ++ [((b.n : Int), .agg #[.int .u64 b.h, b.v])]) * (own q (.cells (arCells A pc pq) 173 (0, 0)) * (stkAt pc A.s * (mapAt pq (bs.map ent) * (rowsAt bs * (own p (.cells X 173 (0, 0)) * (stkAt ps A.s * (rowsAt (l1 ++ l2) * R))))))))) (by rw [hrows]; ac_rfl))
      rw [hv] at hs6 hen6 hrows
      obtain ⟨Y, hY⟩ : ∃ Y : Assn, Y = rangingAt r pb (A.bs.map ent) (dbs.map ent ++ [((b.n : Int), .agg #[.int .u64 b.h, .slice va vn vc])]) * (stkAt pc A.s * (rowsAt bs * (own p (.cells X 173 (0, 0)) * (stkAt ps A.s * (rowsAt (l1 ++ l2) * R))))) := ⟨_, rfl⟩
      obtain ⟨Rw, hRw⟩ : ∃ Rw : Value → Assn, Rw = fun v => rowAt 25 v (u64s b.ws) := ⟨_, rfl⟩
      obtain ⟨P0, hP0⟩ : ∃ P0 : Assn, P0 = own q (.cells (arCells A pc pq) 173 (0, 0)) := ⟨_, rfl⟩
      have Hs6 : Hid (Sat w6 (P0 * (Rw (.slice va vn vc) * (mapAt pq (bs.map ent) * Y)))) := by
        rw [hY, hRw, hP0]
        show Sat _ _
        refine hs6.cast ?_
        rw [hrows]
        simp only []
        ac_rfl
      have hbr := HI.out.range b hb
      have HC : Hid (∀ w (R : Assn), Sat w (Rw (.slice va vn vc) * R) → Calls Try.prog 109 #[.slice va vn vc] w fun e w' => ∃ a n c, e = .returned (.slice a n c) ∧ Sat w' (Rw (.slice a n c) * (Rw (.slice va vn vc) * R)) ∧ Below w.heap.size w w') := by
        subst hRw
        intro w R h
        refine (clone_u64 _ b.ws w h hbr.2.2.2.2.2.1 hbr.2.2.2.2.2.2).mono ?_
        rintro e w' ⟨v', rfl, h1, h2⟩
        obtain ⟨a, n, c, rfl⟩ := rowAt_slice h1
        exact ⟨a, n, c, rfl, h1, h2⟩
      have hPc : Hid (∀ w X, Sat w (P0 * X) → w.cell? ⟨q, 15, none⟩ = some (.map (some pq))) := by
        subst hP0
        exact fun w X h => h.cell 15
      have hnew : Hid (look (bs.map ent) (b.n : Int) = none) := by
        have h1 := ranging_once hs6
        rw [List.map_append, List.map_map, List.nodup_append] at h1
        show look _ _ = none
        simp only [look, Option.map_eq_none_iff, List.find?_eq_none]
        intro x hx e
        obtain ⟨c, hc, rfl⟩ := List.mem_map.1 hx
        have hc3 : key3 c ∈ dbs.map key3 := by rw [← hkey]; exact List.mem_map.2 ⟨c, hc, rfl⟩
        obtain ⟨d, hd, ed⟩ := List.mem_map.1 hc3
        simp only [key3, Prod.mk.injEq] at ed
        refine h1.2.2 (d.n : Int) (List.mem_map.2 ⟨d, hd, rfl⟩) (b.n : Int) (by simp) ?_
        have e' : ((c.n : Int) == (b.n : Int)) = true := e
        rw [ed.1]
        exact eq_of_beq e'
      clear hz6
      have d15 := hPc.out _ _ Hs6.out
      have hyq : q < w6.heap.size := by
        have := Hs6.out
        rw [hP0] at this
        exact this.lt
      have HRw := Lib.hid hRw
      have hleft := rLeft_eq hs
      rw [List.length_map, List.length_map] at hleft
      clear hs hs5 hs6 hRw
      go_wp2_with fail
      have Hs7 := Lib.hid (Hs6.out.alloc (.cells #[.int .u64 b.h, .slice va vn vc] 256))
      have Hk7 := Lib.hid ((hk.trans hk6).alloc (.cells #[.int .u64 b.h, .slice va vn vc] 256))
      generalize World.alloc w6 _ = w7 at *
      generalize w6.heap.size = y at *
      obtain ⟨P1, hP1⟩ : ∃ P1 : Assn, P1 = own y (.cells #[.int .u64 b.h, .slice va vn vc] 256 (0, 0)) := ⟨_, rfl⟩
      rw [← hP1] at Hs7
      have Hs7 : Hid (Sat w7 (P1 * (P0 * (Rw (.slice va vn vc) * (mapAt pq (bs.map ent) * Y))))) := Hs7
      have hS : Hid (∀ w X, Sat w (P1 * (P0 * X)) → w.cell? ⟨q, 15, none⟩ = some (.map (some pq)) ∧ w.cell? ⟨y, 0, none⟩ = some (.int .u64 b.h) ∧ w.cell? ⟨y, 1, none⟩ = some (.slice va vn vc)) := by
        subst hP1
        exact fun w X h => ⟨hPc.out _ _ h.swap, h.cell 0, h.cell 1⟩
      have HM : Hid (∀ w8 ca cn cc, Sat w8 (Rw (.slice ca cn cc) * (Rw (.slice va vn vc) * (P1 * (P0 * (mapAt pq (bs.map ent) * Y))))) →
          ∃ w9, (Instr.mapUpdate 171 (.map (some pq)) (.int .i64 b.n) (.agg #[.int .u64 b.h, .slice ca cn cc])).run Try.prog w8 = .ok () w9 ∧
            Sat w9 (mapAt pq (bs.map ent ++ [((b.n : Int), .agg #[.int .u64 b.h, .slice ca cn cc])]) * (Rw (.slice ca cn cc) * (Rw (.slice va vn vc) * (P1 * (P0 * Y))))) ∧ Kept w8 w9) := by
        intro w8 ca cn cc h
        have h := h.cast (Q := mapAt pq (bs.map ent) * (Rw (.slice ca cn cc) * (Rw (.slice va vn vc) * (P1 * (P0 * Y))))) (by ac_rfl)
        obtain ⟨es, clock, hl, h5⟩ := mapAt_open h
        obtain ⟨w9, es', clock', hup, hl', hb', hoth, hk, hsz⟩ := update_new (P := Try.prog) h5.block hl Try.underlying171 Try.underlying3 (b.n : Int) (.agg #[.int .u64 b.h, .slice ca cn cc]) hnew.out
        exact ⟨w9, hup, mapAt_shut hl' (h5.upd hb' (fun i hi _ => hoth i hi)), hk⟩
      obtain ⟨d15, y0, y1⟩ := hS.out _ _ Hs7.out
      clear Hs6 hP1 hyq
      go_region_held3 (fun w' => w'.cell? ⟨q, 15, none⟩ = some (.map (some pq)) ∧ w'.cell? ⟨y, 0, none⟩ = some (.int .u64 b.h) ∧ w'.cell? ⟨y, 1, none⟩ = some (.slice va vn vc))
        (first | go_keep | exact hS.out _ _ (HS9.cast (Q := P1 * (P0 * (mapAt pq (bs.map ent ++ [((b.n : Int), .agg #[.int .u64 b.h, .slice ca cn cc])]) * (Rw (.slice ca cn cc) * (Rw (.slice va vn vc) * Y))))) (by ac_rfl)) | exact hS.out _ _ (hs8.cast (Q := P1 * (P0 * (Rw (.slice ca cn cc) * (Rw (.slice va vn vc) * (mapAt pq (bs.map ent) * Y))))) (by ac_rfl)) | exact hS.out _ _ (Sat.drew Hs7.out))
        (first | (go_at_call 109; refine (HC.out w7.drew _ (Sat.cast (Q := Rw (.slice va vn vc) * (P1 * (P0 * (mapAt pq (bs.map ent) * Y)))) (Sat.drew Hs7.out) (by ac_rfl))).mono ?_; rintro e w8 ⟨ca, cn, cc, rfl, hs8, hb8⟩; obtain ⟨w9, hup, HS9, HK9⟩ := HM.out w8 ca cn cc hs8))
      have HR9 : Sat w9 (rangingAt r pb (A.bs.map ent) ((dbs ++ [b]).map ent) * (own q (.cells (arCells A pc pq) 173 (0, 0)) * (stkAt pc A.s * (mapAt pq ((bs ++ [Blk.mk b.n b.h b.ws (.slice ca cn cc)]).map ent) * (rowsAt (bs ++ [Blk.mk b.n b.h b.ws (.slice ca cn cc)]) * (own p (.cells X 173 (0, 0)) * (stkAt ps A.s * (rowsAt A.bs * R)))))))) := by
        have h1 := (HS9.cast (Q := P1 * (P0 * (mapAt pq (bs.map ent ++ [((b.n : Int), .agg #[.int .u64 b.h, .slice ca cn cc])]) * (Rw (.slice ca cn cc) * (Rw (.slice va vn vc) * Y))))) (by ac_rfl)).right
        refine h1.cast ?_
        have e2 : rowsAt (bs ++ [Blk.mk b.n b.h b.ws (.slice ca cn cc)]) = rowAt 25 (.slice ca cn cc) (u64s b.ws) * rowsAt bs := by
          have := rows_mid bs [] (Blk.mk b.n b.h b.ws (.slice ca cn cc))
          simpa using this
        have e3 : (bs ++ [Blk.mk b.n b.h b.ws (.slice ca cn cc)]).map ent = bs.map ent ++ [((b.n : Int), .agg #[.int .u64 b.h, .slice ca cn cc])] := by simp [ent]
        have e4 : (dbs ++ [b]).map ent = dbs.map ent ++ [((b.n : Int), .agg #[.int .u64 b.h, .slice va vn vc])] := by simp [ent, hv]
        rw [e2, e3, e4, hrows, hY, HRw.out, hP0]
        simp only []
        ac_rfl
      have hkey' : (bs ++ [Blk.mk b.n b.h b.ws (.slice ca cn cc)]).map key3 = (dbs ++ [b]).map key3 := by rw [List.map_append, List.map_append, hkey]; rfl
      have hm : rLeft w9 pb r < rLeft wr pb r := by
        rw [hleft, rLeft_eq HR9]
        simp
        omega
      have hsub' : ∀ c ∈ dbs ++ [b], c ∈ A.bs := by
        intro c hc
        rcases List.mem_append.1 hc with hc | hc
        · exact hsub c hc
        · simp only [List.mem_singleton] at hc; exact hc ▸ hb
      have hk9 := (Hk7.out.drew.below hb8).trans HK9
      clear HS9 hs8 hup
      go_roundw
      case rel => exact ⟨_, _, _, _, _, _, _, _, _, _, _, _, _, _, _, _, ⟨dbs ++ [b], _, hsub', hkey', hk9, HR9⟩, rfl⟩
      case measure => exact hm
end Go.Proofs.Ytnfpkadepomjjaa
