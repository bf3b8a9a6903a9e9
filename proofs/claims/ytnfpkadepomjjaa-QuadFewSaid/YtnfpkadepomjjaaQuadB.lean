/- A walk through a tree: a leaf. -/
import Derived.Maps.AppendAt
import Derived.Test.YtnfpkadepomjjaaQuadA
set_option linter.all false
namespace Go.Proofs.Ytnfpkadepomjjaa
open Go.RowKit

theorem info_pair : (Try.prog.info? 110).map (fun i => (i.zero, i.size, i.bytes)) = some (some (.agg #[.int .i64 0, .int .i64 0]), 2, 16) := by kernel_rfl
theorem rowK_len {w : World} {T : TypeId} {k n : Nat} {v : Value} {xs : List Value} {R : Assn} (h : Sat w (rowK T k v n xs * R)) : ∃ a c, v = .slice a n c := by
  obtain ⟨_, (⟨rfl, rfl, _⟩ | ⟨g, cap, cur, rfl, _⟩)⟩ := rowK_open h
  · exact ⟨_, _, rfl⟩
  · exact ⟨_, _, rfl⟩
theorem pcells_len (l : List (Int × Int)) : (pcells l).length = l.length * 2 := by
  induction l with
  | nil => rfl
  | cons a l ih => simp only [pcells, List.flatMap_cons, List.length_append, List.length_cons, List.length_nil] at ih ⊢; omega

set_option maxHeartbeats 1600000 in
set_option maxRecDepth 100000 in
theorem leaf_calls (pw m : Nat) (st : WSt) (key : Int) (x : Nat) (w : World) {R : Assn} (H : Sat w (walkAt pw m st * R)) (hx : x < TW) (hl : st.pairs.length ≤ 1000000) :
    Calls Try.prog 214 #[.pointer (some ⟨pw, 0, none⟩), .int .i64 key, .int .u64 x] w fun e w' => e = .returned (.bool (leafF key x st).1) ∧ Sat w' (walkAt pw m (leafF key x st).2 * R) ∧ Kept w w' := by
  unfold leafF
  by_cases h : 1024 < x
  · rw [if_pos h]
    have hd : decide ((1024 : Int) < (x : Int)) = true := decide_eq_true (by omega)
    have HH := Lib.hid H
    clear H
    go_enter Try.func214, Try.ntmps214
    go_wp2
    go_ret
    exact ⟨rfl, HH.out, Kept.refl _⟩
  · rw [if_neg h]
    have hd : decide ((1024 : Int) < (x : Int)) = false := decide_eq_false (by omega)
    obtain ⟨vp, vh, H1⟩ := walkAt_open H
    have c1 := H1.cell 1
    have f1 := H1.free 1
    simp at c1
    have hlt := H1.lt
    obtain ⟨ip, hi, hz0, hz1, hz2⟩ := info_parts info_pair
    have HH := Lib.hid H1
    have hwx : IntKind.i64.wrap (x : Int) = x := IntWalk.i64_in _ (by omega)
    have hwx1 : IntKind.i64.wrap ((x : Int) - 1) = (x : Int) - 1 := IntWalk.i64_in _ (by omega)
    have HL := Lib.hid hl
    clear H H1 h hl
    go_enter Try.func214, Try.ntmps214
    have HA := HH.out.alloc (.cells #[.int .i64 key, .int .i64 ((x : Int) - 1)] 110)
    have HA2 := HA.cast (Q := rowK 110 2 vp st.pairs.length (pcells st.pairs) * (own w.heap.size (.cells #[.int .i64 key, .int .i64 ((x : Int) - 1)] 110 (0, 0)) * (own pw (.cells #[.map (some m), vp, vh] 220 (0, 0)) * (rowK 25 1 vh st.hs.length (u64s st.hs) * R)))) (by ac_rfl)
    have hown := rowK_owns HA2
    have hn0 := HA.cell 0
    have hn1 := HA.cell 1
    have HH2 := Lib.hid HA2
    clear HA HA2
    go_wp2_with (at_builtin; refine wpList_append_own_at _ rfl _ _ 104 rfl 0 110 ip (.agg #[.int .i64 0, .int .i64 0]) 2 16 Try.underlying104 hi hz0 hz1 hz2 rfl (by decide) vp st.pairs.length (pcells st.pairs) rfl hown ⟨w.heap.size, 0, none⟩ 1 1 [.int .i64 key, .int .i64 ((x : Int) - 1)] rfl rfl ?c1 ?c2 ?c3 ?c4 (Nat.zero_le _) ?_)
    case c1 =>
      intro j u hj
      rw [Addr.add_mid]
      match j, hj with
      | 0, hj => simp only [List.getElem?_cons_zero, Option.some.injEq] at hj; subst hj; exact hn0
      | 1, hj => simp only [List.getElem?_cons_succ, List.getElem?_cons_zero, Option.some.injEq] at hj; subst hj; exact hn1
      | _ + 2, hj => simp at hj
    case c2 => intro u hu; simp only [List.mem_cons, List.not_mem_nil, or_false] at hu; rcases hu with rfl | rfl <;> rfl
    case c3 => have := HL.out; unfold maxLen; omega
    case c4 => have := HL.out; omega
    intro v' w1 hown' hgrow _ hblk
    have H3 := rowK_appended HH2.out hown' hgrow (by simpa using hblk)
    obtain ⟨va, vc, rfl⟩ := rowK_len H3
    have HK := Lib.hid (((Kept.refl w).alloc (.cells #[.int .i64 key, .int .i64 ((x : Int) - 1)] 110)).grown hgrow)
    have H3 := H3.cast (Q := own pw (.cells #[.map (some m), vp, vh] 220 (0, 0)) * (rowK 110 2 (.slice va (st.pairs.length + 1) vc) (st.pairs.length + 1) (pcells st.pairs ++ [.int .i64 key, .int .i64 ((x : Int) - 1)]) * (rowK 25 1 vh st.hs.length (u64s st.hs) * (own w.heap.size (.cells #[.int .i64 key, .int .i64 ((x : Int) - 1)] 110 (0, 0)) * R)))) (by ac_rfl)
    have d1 := H3.cell 1
    have g1 := H3.free 1
    simp at d1
    have H3 := Lib.hid H3
    clear c1 f1 hown' hgrow hblk hn0 hn1 hown HH2 HH
    generalize w.heap.size = y at *
    have H4 := Lib.hid (H3.out.set 1 (.slice va (st.pairs.length + 1) vc))
    go_wp2
    go_ret
    refine ⟨rfl, ?_, HK.out.setCell _ _⟩
    refine walkAt_shut (vp := .slice va (st.pairs.length + 1) vc) (vh := vh) ?_
    have e : pcells (st.pairs ++ [(key, (x : Int) - 1)]) = pcells st.pairs ++ [.int .i64 key, .int .i64 ((x : Int) - 1)] := by simp [pcells]
    rw [e, List.length_append]
    have H5 := H4.out
    simp at H5
    exact (H5.cast (Q := own y (.cells #[.int .i64 key, .int .i64 ((x : Int) - 1)] 110 (0, 0)) * (own pw (.cells #[.map (some m), .slice va (st.pairs.length + 1) vc, vh] 220 (0, 0)) * (rowK 110 2 (.slice va (st.pairs.length + 1) vc) (st.pairs.length + 1) (pcells st.pairs ++ [.int .i64 key, .int .i64 ((x : Int) - 1)]) * (rowK 25 1 vh st.hs.length (u64s st.hs) * R)))) (by ac_rfl)).right
end Go.Proofs.Ytnfpkadepomjjaa
