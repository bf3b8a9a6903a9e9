/- Two arenas against one another (layer 3): all blocks, one by one. -/
import Derived.Test.YtnfpkadepomjjaaSamA
import Derived.Test.YtnfpkadepomjjaaBaseLst
import Derived.Test.YtnfpkadepomjjaaBaseClo
set_option linter.all false
namespace Go.Proofs.Ytnfpkadepomjjaa
open Go Go.RowKit
set_option maxRecDepth 100000

theorem bkF_u64s (l : List Nat) : intsOf .u64 l.length (bkF l) = u64s l := by
  unfold intsOf u64s
  rw [show (fun n : Nat => Value.int .u64 (n : Int)) = Value.int .u64 ∘ (fun n : Nat => (n : Int)) from rfl, ← List.map_map, ← bkF_map, List.map_map]
  rfl
theorem eqR_list (ws vs : List Nat) : eqR ws.length vs.length (bkF ws) (bkF vs) = (ws == vs) := by
  rw [Bool.eq_iff_iff, beq_iff_eq]
  constructor
  · intro h
    simp only [eqR, Bool.and_eq_true, beq_iff_eq, List.all_eq_true, List.mem_range] at h
    refine List.ext_getElem h.1 fun i h1 h2 => ?_
    have := h.2 i h1
    simp only [bkF, List.getD_eq_getElem?_getD, List.getElem?_eq_getElem h1, List.getElem?_eq_getElem h2, Option.getD_some] at this
    omega
  · rintro rfl
    exact eqR_yes rfl fun _ _ => rfl
theorem alike_any (h k : Nat) (ws vs : List Nat) (v1 v2 : Value) (w : World) {R : Assn} (H : Sat w (rowAt 25 v1 (u64s ws) * (rowAt 25 v2 (u64s vs) * R))) (hw : 1 ≤ ws.length ∧ ws.length ≤ 2048) (hv : 1 ≤ vs.length ∧ vs.length ≤ 2048) :
    Calls Try.prog 154 #[.agg #[.int .u64 h, v1], .agg #[.int .u64 k, v2]] w fun e w' => e = .returned (.bool (h == k && ws == vs)) ∧ Sat w' (rowAt 25 v1 (u64s ws) * (rowAt 25 v2 (u64s vs) * R)) ∧ Kept w w' := by
  have l1 : (u64s ws).length = ws.length := by simp [u64s]
  have l2 : (u64s vs).length = vs.length := by simp [u64s]
  rcases rowAt_open H with ⟨_, h0, _⟩ | ⟨g1, c1, cur1, rfl, a2, a3, a4, a5, H1⟩
  · rw [h0] at l1; simp at l1; omega
  rcases rowAt_open H.swap with ⟨_, h0, _⟩ | ⟨g2, c2, cur2, rfl, b2, b3, b4, b5, H2⟩
  · rw [h0] at l2; simp at l2; omega
  clear H1 H2 a5 b5
  rw [l1] at H ⊢
  rw [l2] at H ⊢
  have H1 := rowAt_head l1 H
  have H2 := rowAt_head l2 H1.swap
  have H3 : Sat w ((⟨[(0, .ints 25 .u64 ws.length c1 (bkF ws)), (1, .ints 25 .u64 vs.length c2 (bkF vs))], 100⟩ : Mem XB).hp.den (nu3 g1 g2 0) * R) := by
    refine H2.cast ?_
    simp only [SH.den, SO.den, nu3, bkF_u64s]
    rw [Assn.mul_comm _ (1 : Assn), Assn.one_mul]
    ac_rfl
  refine (callN_ok namesOk mixed _ _ _ _ _ _ _ _ _ (alike_run (h : Int) (k : Int) ws.length vs.length c1 c2 (bkF ws) (bkF vs) ⟨by omega, by omega⟩).out _ w R w H3 (Kept.refl w)).mono ?_
  rintro e w' ⟨v, m', s', ξ, ho, ag, _, he, hs, hk⟩
  obtain ⟨κ, agk, hv', hs⟩ := outM_sound ho hs
  have k0 : κ 0 = g1 := by rw [agk 0 (by decide), ag 0 (by show 0 < 100; decide)]; rfl
  have k1 : κ 1 = g2 := by rw [agk 1 (by decide), ag 1 (by show 1 < 100; decide)]; rfl
  refine ⟨?_, ?_, hk⟩
  · rw [he, hv', eqR_list]
    have : ((h : Int) == (k : Int)) = (h == k) := by rw [Bool.eq_iff_iff, beq_iff_eq, beq_iff_eq]; omega
    rw [this]
    rfl
  · have h4 : Sat w' (rowHead g2 25 1 vs.length c2 (u64s vs) * (rowHead g1 25 1 ws.length c1 (u64s ws) * R)) := by
      refine hs.cast ?_
      simp only [SH.den, SO.den, k0, k1, bkF_u64s]
      rw [Assn.mul_comm _ (1 : Assn), Assn.one_mul]
      ac_rfl
    have h5 := head_rowAt l2 h4
    exact (head_rowAt l1 h5.swap)
def sameBs (xs ys : List Blk) : Bool := (xs.length == ys.length) && xs.all fun a => ys.any fun b => key3 a == key3 b
theorem look_blk {ys : List Blk} (hnd : (ys.map (·.n)).Nodup) {b : Blk} (hb : b ∈ ys) : look (ys.map ent) (b.n : Int) = some (.agg #[.int .u64 b.h, b.v]) := by
  rw [look_ent]
  induction ys with
  | nil => cases hb
  | cons a l ih =>
    simp only [List.map_cons, List.nodup_cons, List.mem_map] at hnd
    rw [List.find?_cons]
    by_cases e : a.n = b.n
    · rcases List.mem_cons.1 hb with rfl | hb'
      · simp
      · exact absurd ⟨b, hb', e.symm⟩ hnd.1
    · rw [beq_eq_false_iff_ne.2 e]
      rcases List.mem_cons.1 hb with rfl | hb'
      · exact absurd rfl e
      · exact ih hnd.2 hb'
theorem look_blk_none {ys : List Blk} {n : Nat} (h : ∀ b ∈ ys, b.n ≠ n) : look (ys.map ent) (n : Int) = none := by
  rw [look_ent]
  rw [List.find?_eq_none.2 fun b hb => by simpa using h b hb]
  rfl
theorem blks_perm {xs dbs : List Blk} (hap : (xs.map (·.n)).Nodup) (hp : (dbs.map ent).Perm (xs.map ent)) (hs : ∀ b ∈ dbs, b ∈ xs) : ∀ a ∈ xs, a ∈ dbs := by
  intro a ha
  have h1 : ent a ∈ dbs.map ent := hp.mem_iff.2 (List.mem_map.2 ⟨a, ha, rfl⟩)
  obtain ⟨b, hb, e⟩ := List.mem_map.1 h1
  have hn : b.n = a.n := by
    simp only [ent, Prod.mk.injEq] at e
    omega
  have := nodup_inj (f := Blk.n) hap (hs b hb) ha hn
  exact this ▸ hb
theorem run_len_blk (w : World) {R : Assn} {p : Nat} {l : List Blk} (h : Sat w (mapAt p (l.map ent) * R)) (ty : TypeId) : (Builtin.len_ #[171] ty #[.map (some p)]).run Try.prog w = .ok (.int .i64 (l.length : Int)) w := by
  obtain ⟨es, clock, hl, h5⟩ := mapAt_open h
  have hsz : es.size = l.length := by
    have := congrArg List.length hl.1
    simpa using this
  simp [Builtin.len_, run_underlying Try.underlying171, goInt, MapKept.run_getObj_map h5.block, Result.andThen, hsz]
set_option maxHeartbeats 3200000 in
theorem equal_func (pa pb : Nat) (xs ys : List Blk) (w : World) {R : Assn} (H : Sat w (mapAt pa (xs.map ent) * (rowsAt xs * (mapAt pb (ys.map ent) * (rowsAt ys * R))))) (ha : ∀ b ∈ xs, 1 ≤ b.ws.length ∧ b.ws.length ≤ 2048) (hb : ∀ b ∈ ys, 1 ≤ b.ws.length ∧ b.ws.length ≤ 2048)
    (hna : (xs.map (·.n)).Nodup) (hnb : (ys.map (·.n)).Nodup) (hla : xs.length ≤ 100000) (hlb : ys.length ≤ 100000) :
    Calls Try.prog 156 #[.map (some pa), .map (some pb), .func (.func 154) #[] #[]] w fun e w' =>
      e = .returned (.bool (sameBs xs ys)) ∧ Sat w' (mapAt pa (xs.map ent) * (rowsAt xs * (mapAt pb (ys.map ent) * (rowsAt ys * R)))) ∧ Kept w w' := by
  have hl1 := run_len_blk w H
  have hl2 := run_len_blk w (H.cast (Q := mapAt pb (ys.map ent) * (mapAt pa (xs.map ent) * (rowsAt xs * (rowsAt ys * R)))) (by ac_rfl))
  have HH := Lib.hid H
  by_cases hlen : xs.length = ys.length
  · have hd : ((xs.length : Int) != (ys.length : Int)) = false := by rw [hlen]; simp
    have HN := Lib.hid (And.intro hna hnb)
    have HA := Lib.hid (And.intro ha hb)
    clear H ha hb hna hnb
    go_enter Try.func156, Try.ntmps156
    go_wp2_with (at_range; refine wpList_range_at _ rfl (.tmp 16) 171 _ _ rfl Try.underlying171 pa (xs.map ent) rfl HH.out ?_; intro w5 hs5 hk5 hb5)
    have Hk5 := Lib.hid ((Kept.refl w).trans hk5)
    clear hk5 hb5
    generalize w.heap.size = r at *
    go_loopw [7, 8, 9, 10] (fun _ _ _ _ wr => ∃ dbs : List Blk, (∀ b ∈ dbs, b ∈ xs) ∧ (∀ a ∈ dbs, (ys.any fun b => key3 a == key3 b) = true) ∧ Kept w wr ∧
      Sat wr (rangingAt r pa (xs.map ent) (dbs.map ent) * (rowsAt xs * (mapAt pb (ys.map ent) * (rowsAt ys * R)))))
      (fun _ _ _ _ wr => rLeft wr pa r)
    case atStart => exact ⟨[], by simp, by simp, Hk5.out, hs5⟩
    case round =>
      obtain ⟨dbs, hsub, hmat, hk, hs⟩ := hrel
      go_wp2_with (at_next; refine wpList_next_at _ rfl (.tmp 17) rfl r pa (xs.map ent) (dbs.map ent) rfl hs ?_ ?_)
      · intro hperm
        have hall := blks_perm HN.out.1 hperm hsub
        have hres : sameBs xs ys = true := by
          unfold sameBs
          rw [Bool.and_eq_true, List.all_eq_true]
          exact ⟨by simpa using hlen, fun a ha => hmat a (hall a ha)⟩
        have hfin := rangingAt_map hs
        clear hs hs5
        go_wp2
        go_ret
        exact ⟨by rw [hres]; rfl, hfin, hk⟩
      · intro x v w6 a ha hent hs6 hk6 hz6 hlt6 hen6
        obtain ⟨l1, l2, hl12⟩ := List.append_of_mem ha
        have hrows := rows_mid l1 l2 a
        rw [← hl12] at hrows
        clear hl12
        have e1 : x = a.n ∧ v = .agg #[.int .u64 a.h, a.v] := by
          have := hent
          simp only [ent, Prod.mk.injEq] at this
          exact ⟨this.1.symm, this.2.symm⟩
        obtain ⟨rfl, rfl⟩ := e1
        have hs7 := hs6.cast (Q := rowAt 25 a.v (u64s a.ws) * (rangingAt r pa (xs.map ent) (dbs.map ent ++ [((a.n : Int), .agg #[.int .u64 a.h, a.v])]) * (rowsAt (l1 ++ l2) * (mapAt pb (ys.map ent) * (rowsAt ys * R))))) (by rw [hrows]; ac_rfl)
        obtain ⟨va, vn, vc, hv⟩ := rowAt_slice hs7
        rw [hv] at hs7 hen6
        have Hs7 := Lib.hid hs7
        have Hs6 := Lib.hid hs6
        have hleft := rLeft_eq hs
        rw [List.length_map, List.length_map] at hleft
        clear hs hs5 hs6 hs7 hz6
        go_wp2_with fail
        have Hs8 := Lib.hid (Hs7.out.alloc (.cells #[.int .u64 a.h, .slice va vn vc] 256))
        have Hk8 := Lib.hid ((hk.trans hk6).alloc (.cells #[.int .u64 a.h, .slice va vn vc] 256))
        generalize World.alloc w6 _ = w7 at *
        generalize w6.heap.size = y at *
        by_cases hex : ∃ b ∈ ys, b.n = a.n
        · obtain ⟨b, hb, hbn⟩ := hex
          obtain ⟨m1, m2, hm12⟩ := List.append_of_mem hb
          have hrows2 := rows_mid m1 m2 b
          rw [← hm12] at hrows2
          clear hm12
          have hs9 := Hs8.out.cast (Q := rowAt 25 b.v (u64s b.ws) * (own y (.cells #[.int .u64 a.h, .slice va vn vc] 256 (0, 0)) * (rowAt 25 (.slice va vn vc) (u64s a.ws) * (rangingAt r pa (xs.map ent) (dbs.map ent ++ [((a.n : Int), .agg #[.int .u64 a.h, .slice va vn vc])]) * (rowsAt (l1 ++ l2) * (mapAt pb (ys.map ent) * (rowsAt (m1 ++ m2) * R))))))) (by rw [hrows2]; ac_rfl)
          obtain ⟨ba, bn, bc, hbv⟩ := rowAt_slice hs9
          rw [hbv] at hs9
          have hlook : (Instr.lookup 171 (.map (some pb)) (.int .i64 (a.n : Int)) true).run Try.prog w7 = .ok (.tuple #[.agg #[.int .u64 b.h, .slice ba bn bc], .bool true]) w7 := by
            obtain ⟨es, clock, hl, h5⟩ := mapAt_open (hs9.cast (Q := mapAt pb (ys.map ent) * (rowAt 25 (.slice ba bn bc) (u64s b.ws) * (own y (.cells #[.int .u64 a.h, .slice va vn vc] 256 (0, 0)) * (rowAt 25 (.slice va vn vc) (u64s a.ws) * (rangingAt r pa (xs.map ent) (dbs.map ent ++ [((a.n : Int), .agg #[.int .u64 a.h, .slice va vn vc])]) * (rowsAt (l1 ++ l2) * (rowsAt (m1 ++ m2) * R))))))) (by ac_rfl))
            have := lookup_ok (P := Try.prog) h5.block hl Try.underlying171 Try.underlying3 (zero_block _) (a.n : Int)
            rw [← hbn, look_blk HN.out.2 hb, hbv] at this
            rw [← hbn]
            exact this
          have Hs9 := Lib.hid (hs9.alloc (.cells #[.int .u64 b.h, .slice ba bn bc] 256))
          have Hk9 := Lib.hid (Hk8.out.alloc (.cells #[.int .u64 b.h, .slice ba bn bc] 256))
          clear Hs8 hs9 Hs6 Hs7
          rw [hlook, Result.andThen_ok, Oper.upon_value]
          have d0 := Hs9.out.cell 0
          have d1 := Hs9.out.cell 1
          have e0 := (Hs9.out.cast (Q := own y (.cells #[.int .u64 a.h, .slice va vn vc] 256 (0, 0)) * (own w7.heap.size (.cells #[.int .u64 b.h, .slice ba bn bc] 256 (0, 0)) * (rowAt 25 (.slice ba bn bc) (u64s b.ws) * (rowAt 25 (.slice va vn vc) (u64s a.ws) * (rangingAt r pa (xs.map ent) (dbs.map ent ++ [((a.n : Int), .agg #[.int .u64 a.h, .slice va vn vc])]) * (rowsAt (l1 ++ l2) * (mapAt pb (ys.map ent) * (rowsAt (m1 ++ m2) * R)))))))) (by ac_rfl))
          have e1 := e0.cell 1
          have e0 := e0.cell 0
          simp only [List.getElem?_toArray, List.getElem?_cons_zero, List.getElem?_cons_succ] at d0 d1 e0 e1
          have Hal := Lib.hid (alike_any a.h b.h a.ws b.ws (.slice va vn vc) (.slice ba bn bc) _ (Hs9.out.cast (Q := rowAt 25 (.slice va vn vc) (u64s a.ws) * (rowAt 25 (.slice ba bn bc) (u64s b.ws) * (own y (.cells #[.int .u64 a.h, .slice va vn vc] 256 (0, 0)) * (own w7.heap.size (.cells #[.int .u64 b.h, .slice ba bn bc] 256 (0, 0)) * (rangingAt r pa (xs.map ent) (dbs.map ent ++ [((a.n : Int), .agg #[.int .u64 a.h, .slice va vn vc])]) * (rowsAt (l1 ++ l2) * (mapAt pb (ys.map ent) * (rowsAt (m1 ++ m2) * R)))))))) (by ac_rfl)) (HA.out.1 a ha) (HA.out.2 b hb))
          go_wp2_with fail
          refine (Hal.out).mono ?_; rintro e w10 ⟨rfl, hs10, hk10⟩
          have hfin : Sat w10 (rangingAt r pa (xs.map ent) ((dbs ++ [a]).map ent) * (rowsAt xs * (mapAt pb (ys.map ent) * (rowsAt ys * R)))) := by
            have h1 := (hs10.cast (Q := own y (.cells #[.int .u64 a.h, .slice va vn vc] 256 (0, 0)) * (own w7.heap.size (.cells #[.int .u64 b.h, .slice ba bn bc] 256 (0, 0)) * (rowAt 25 (.slice ba bn bc) (u64s b.ws) * (rowAt 25 (.slice va vn vc) (u64s a.ws) * (rangingAt r pa (xs.map ent) (dbs.map ent ++ [((a.n : Int), .agg #[.int .u64 a.h, .slice va vn vc])]) * (rowsAt (l1 ++ l2) * (mapAt pb (ys.map ent) * (rowsAt (m1 ++ m2) * R)))))))) (by ac_rfl)).right.right
            refine h1.cast ?_
            have e4 : (dbs ++ [a]).map ent = dbs.map ent ++ [((a.n : Int), .agg #[.int .u64 a.h, .slice va vn vc])] := by simp [ent, hv]
            rw [e4, hrows, hrows2, hv, hbv]
            ac_rfl
          have Hfin := Lib.hid hfin
          have Hkf := Lib.hid (Hk9.out.trans hk10)
          clear hs10 hk10 Hal Hs9 hfin
          cases hq : (a.h == b.h && a.ws == b.ws) with
          | false =>
            have hres : sameBs xs ys = false := by
              unfold sameBs
              rw [Bool.and_eq_false_iff]
              right
              rw [List.all_eq_false]
              refine ⟨a, ha, ?_⟩
              rw [Bool.not_eq_true, List.any_eq_false]
              intro c hc e
              have e := eq_of_beq e
              simp only [key3, Prod.mk.injEq] at e
              have : c = b := nodup_inj (f := Blk.n) HN.out.2 hc hb (by omega)
              subst this
              rw [e.2.1, e.2.2] at hq
              simp at hq
            have hfin2 := rangingAt_map Hfin.out
            go_wp2
            go_ret
            exact ⟨by rw [hres]; rfl, hfin2, Hkf.out⟩
          | true =>
            have hsub' : ∀ c ∈ dbs ++ [a], c ∈ xs := by
              intro c hc
              rcases List.mem_append.1 hc with hc | hc
              · exact hsub c hc
              · simp only [List.mem_singleton] at hc; exact hc ▸ ha
            have hmat' : ∀ c ∈ dbs ++ [a], (ys.any fun b => key3 c == key3 b) = true := by
              intro c hc
              rcases List.mem_append.1 hc with hc | hc
              · exact hmat c hc
              · simp only [List.mem_singleton] at hc
                subst hc
                rw [List.any_eq_true]
                simp only [Bool.and_eq_true, beq_iff_eq] at hq
                exact ⟨b, hb, by simp [key3, hbn, hq.1, hq.2]⟩
            have hm : rLeft w10 pa r < rLeft wr pa r := by
              rw [hleft, rLeft_eq Hfin.out]
              simp
              omega
            go_wp2
            go_roundw
            case rel => trace_state; exact ⟨dbs ++ [a], hsub', hmat', Hkf.out, Hfin.out⟩
            case measure => exact hm
        · have hlook : (Instr.lookup 171 (.map (some pb)) (.int .i64 (a.n : Int)) true).run Try.prog w7 = .ok (.tuple #[.agg #[.int .u64 0, .slice none 0 0], .bool false]) w7 := by
            obtain ⟨es, clock, hl, h5⟩ := mapAt_open (Hs8.out.cast (Q := mapAt pb (ys.map ent) * (own y (.cells #[.int .u64 a.h, .slice va vn vc] 256 (0, 0)) * (rowAt 25 (.slice va vn vc) (u64s a.ws) * (rangingAt r pa (xs.map ent) (dbs.map ent ++ [((a.n : Int), .agg #[.int .u64 a.h, .slice va vn vc])]) * (rowsAt (l1 ++ l2) * (rowsAt ys * R)))))) (by ac_rfl))
            have := lookup_ok (P := Try.prog) h5.block hl Try.underlying171 Try.underlying3 (zero_block _) (a.n : Int)
            rw [look_blk_none fun b hb e => hex ⟨b, hb, e⟩] at this
            exact this
          have hres : sameBs xs ys = false := by
            unfold sameBs
            rw [Bool.and_eq_false_iff]
            right
            rw [List.all_eq_false]
            refine ⟨a, ha, ?_⟩
            rw [Bool.not_eq_true, List.any_eq_false]
            intro b hb e
            have e := eq_of_beq e
            simp only [key3, Prod.mk.injEq] at e
            exact hex ⟨b, hb, e.1.symm⟩
          have hfin : Sat w7 (mapAt pa (xs.map ent) * (rowsAt xs * (mapAt pb (ys.map ent) * (rowsAt ys * R)))) := by
            have h1 := (Hs8.out.right.cast (Q := rangingAt r pa (xs.map ent) (dbs.map ent ++ [((a.n : Int), .agg #[.int .u64 a.h, .slice va vn vc])]) * (rowsAt xs * (mapAt pb (ys.map ent) * (rowsAt ys * R)))) (by rw [hrows, hv]; ac_rfl))
            exact rangingAt_map h1
          have Hfin := Lib.hid (hfin.alloc (.cells #[.int .u64 0, .slice none 0 0] 256))
          have hkf := Hk8.out.alloc (.cells #[.int .u64 0, .slice none 0 0] 256)
          clear Hs8 Hs7 Hs6 hfin
          rw [hlook, Result.andThen_ok, Oper.upon_value]
          go_wp2
          go_ret
          exact ⟨by rw [hres]; rfl, Hfin.out.right, hkf⟩
  · have hd : ((xs.length : Int) != (ys.length : Int)) = true := by rw [bne_iff_ne]; omega
    have hres : sameBs xs ys = false := by simp [sameBs, hlen]
    rw [hres]
    go_enter Try.func156, Try.ntmps156
    go_wp2
    go_ret
    exact ⟨rfl, HH.out, Kept.refl w⟩
end Go.Proofs.Ytnfpkadepomjjaa
