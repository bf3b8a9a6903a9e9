/- The arena's faults (layer 3): handles that lead nowhere, words that there aren't. -/
import Derived.Test.YtnfpkadepomjjaaBaseArD
set_option linter.all false
namespace Go.Proofs.Ytnfpkadepomjjaa
open Go.RowKit
set_option maxRecDepth 100000

theorem rows_slices : ∀ {bs : List Blk} {w : World} {R : Assn}, Sat w (rowsAt bs * R) → ∀ b ∈ bs, ∃ g n c, b.v = .slice g n c
  | [], _, _, _, _, hb => by cases hb
  | a :: l, w, R, H, b, hb => by
    have H1 : Sat w (rowAt 25 a.v (u64s a.ws) * (rowsAt l * R)) := H.cast (by simp only [rowsAt]; ac_rfl)
    rcases List.mem_cons.1 hb with rfl | hb
    · rcases rowAt_open H1 with ⟨h, _, _⟩ | ⟨g, cap, cur, h, _⟩
      · exact ⟨_, _, _, h⟩
      · exact ⟨_, _, _, h⟩
    · exact rows_slices H1.right b hb
theorem ar_slices {p : Nat} {A : Ar} {w : World} {R : Assn} (H : Sat w (arAt p A * R)) : ∀ b ∈ A.bs, ∃ g n c, b.v = .slice g n c := by
  obtain ⟨ps, pb, hi, H1⟩ := arAt_open H
  exact rows_slices (H1.cast (Q := rowsAt A.bs * (own p (.cells (arCells A ps pb) 173 (0, 0)) * (stkAt ps A.s * (mapAt pb (A.bs.map ent) * R)))) (by ac_rfl))
set_option maxHeartbeats 800000 in
theorem find_none (p h : Nat) (A : Ar) (w : World) (hs : Sees w p A) (hv : ∀ b ∈ A.bs, ∃ g n c, b.v = .slice g n c) (hh : h < TW) (hf : A.find h = none) :
    Calls Try.prog 149 #[.pointer (some ⟨p, 0, none⟩), .int .u64 h] w fun e w' => e = .returned (.tuple #[.slice none 0 0, .bool false]) ∧ Below w.heap.size w w' := by
  obtain ⟨pb, es, clock, hc, hm, hl⟩ := hs.look
  have hp := hs.lt
  have hwr : IntKind.i64.wrap ((h : Int) % 65536) = (h : Int) % 65536 := IntWalk.i64_in _ (by omega)
  have hlt : pb < w.heap.size := heap_lt hm
  have hcase : look (A.bs.map ent) ((h % 65536 : Nat) : Int) = none ∨ ∃ b : Blk, b.h ≠ h ∧ look (A.bs.map ent) ((h % 65536 : Nat) : Int) = some (.agg #[.int .u64 b.h, b.v]) := by
    rcases find_look hs.inv h with ⟨b', h1, _⟩ | ⟨_, h2⟩
    · rw [hf] at h1; cases h1
    · exact h2
  have hr1 : (Instr.lookup 171 (.map (some pb)) (.int .i64 ((h : Int) % 65536)) true).run Try.prog w.drew = .ok (.tuple #[(look (A.bs.map ent) ((h % 65536 : Nat) : Int)).getD (.agg #[.int .u64 0, .slice none 0 0]), .bool (look (A.bs.map ent) ((h % 65536 : Nat) : Int)).isSome]) w.drew := by
    have := lookup_ok (P := Try.prog) (w := w.drew) hm hl Try.underlying171 Try.underlying3 (zero_block _) ((h % 65536 : Nat) : Int)
    simpa using this
  have hr2 : (Instr.lookup 171 (.map (some pb)) (.int .i64 ((h : Int) % 65536)) true).run Try.prog (w.alloc (.cells #[.int .u64 0, .slice none 0 0] 256)).drew = .ok (.tuple #[(look (A.bs.map ent) ((h % 65536 : Nat) : Int)).getD (.agg #[.int .u64 0, .slice none 0 0]), .bool (look (A.bs.map ent) ((h % 65536 : Nat) : Int)).isSome]) (w.alloc (.cells #[.int .u64 0, .slice none 0 0] 256)).drew := by
    have := lookup_ok (P := Try.prog) (w := (w.alloc (.cells #[.int .u64 0, .slice none 0 0] 256)).drew) ((Below.heap_alloc _ _ _ hlt).trans hm) hl Try.underlying171 Try.underlying3 (zero_block _) ((h % 65536 : Nat) : Int)
    simpa using this
  clear hl hm hf hs
  rcases hcase with hn | ⟨b, hne, hb⟩
  · rw [hn] at hr1 hr2
    simp only [Option.getD_none, Option.isSome_none] at hr1 hr2
    clear hn hv
    go_enter Try.func149, Try.ntmps149
    go_wp2
    go_region_with (go_at_call 151; refine (block_any h _ hh).mono ?_; rintro e w' ⟨rfl, rfl⟩)
    all_goals (go_wp2; go_ret2; exact ⟨rfl, ((Below.refl _ _).alloc (Nat.le_refl _) _).drew⟩)
  · rw [hb] at hr1 hr2
    simp only [Option.getD_some, Option.isSome_some] at hr1 hr2
    have hneq : ((b.h : Int) != (h : Int)) = true := by rw [bne_iff_ne]; omega
    obtain ⟨g, n, c, hgv⟩ : ∃ g n c, b.v = .slice g n c := by
      unfold look at hb
      cases hf : (A.bs.map ent).find? (fun y => y.1 == ((h % 65536 : Nat) : Int)) with
      | none => rw [hf] at hb; cases hb
      | some y =>
        rw [hf] at hb
        obtain ⟨b', hb', rfl⟩ := List.mem_map.1 (List.mem_of_find?_eq_some hf)
        simp only [Option.map_some, ent, Option.some.injEq, Value.agg.injEq] at hb
        obtain ⟨g, n, c, e⟩ := hv b' hb'
        have e2 : b'.v = b.v := by
          have := congrArg (fun a : Array Value => a.toList) hb
          simp only [List.cons.injEq] at this
          exact this.2.1
        exact ⟨g, n, c, by rw [← e2, e]⟩
    rw [hgv] at hr1 hr2
    clear hb hgv hv
    go_enter Try.func149, Try.ntmps149
    go_wp2
    go_region_with (go_at_call 151; refine (block_any h _ hh).mono ?_; rintro e w' ⟨rfl, rfl⟩)
    all_goals (go_wp2; go_ret2; exact ⟨rfl, ((Below.refl _ _).alloc (Nat.le_refl _) _).drew⟩)

def Ar.fault (A : Ar) : Ar := { A with faults := A.faults + 1 }
theorem ArInv.fault {A : Ar} (hi : ArInv A) : ArInv A.fault :=
  ⟨hi.cap, hi.used, hi.peak, hi.births, hi.fixed, hi.nums, hi.range, hi.words, hi.apart, hi.births', hi.sum, hi.backs, hi.high, hi.bnd, hi.hmax⟩
theorem fault_any (p : Nat) (c : Int) (A : Ar) (w : World) {R : Assn} (H : Sat w (arAt p A * R)) :
    Calls Try.prog 150 #[.pointer (some ⟨p, 0, none⟩), .int .i64 c] w fun e w' => e = .returned (.int .i64 c) ∧ Sat w' (arAt p A.fault * R) ∧ Kept w w' := by
  obtain ⟨ps, pb, hi, H1⟩ := arAt_open H
  have c3 : w.cell? ⟨p, 3, none⟩ = some (.int .i64 (wr64 A.faults)) := H1.cell 3
  have z3 := H1.free 3
  have hS : Hid (Sat (w.setCell ⟨p, 3, none⟩ (.int .i64 (wrap64 (wr64 A.faults + 1)))) (arAt p A.fault * R)) := by
    rw [wr64_succ]
    exact arAt_shut (A := A.fault) hi.fault (H1.set 3 (.int .i64 (wr64 (A.faults + 1))))
  clear H H1 hi
  go_enter Try.func150, Try.ntmps150
  go_wp2
  go_ret
  exact ⟨rfl, hS.out, (Kept.refl w).setCell _ _⟩
/-- The words of an address that isn't there. -/
theorem at_gone (p h : Nat) (i : Int) (A : Ar) (w : World) {R : Assn} (H : Sat w (arAt p A * R)) (hh : h < TW) (h0 : h ≠ 0) (hf : A.find h = none) :
    Calls Try.prog 122 #[.pointer (some ⟨p, 0, none⟩), .agg #[.int .u64 h, .int .i64 i]] w fun e w' => e = .returned (.tuple #[.slice none 0 0, .int .i64 23]) ∧ Sat w' (arAt p A.fault * R) ∧ Kept w w' := by
  have hne : ((h : Int) != 0) = true := by rw [bne_iff_ne]; omega
  have H0 := H.alloc (.cells #[.int .u64 h, .int .i64 i] 96)
  have HK : Hid (Kept w (w.alloc (.cells #[.int .u64 h, .int .i64 i] 96))) := (Kept.refl w).alloc _
  obtain ⟨ps, pb, hi, H1⟩ := arAt_open H0.swap
  have hsee := sees_of hi H1
  have hp := H1.lt
  have HF := Lib.hid (find_none p h A _ hsee (ar_slices H) hh hf)
  have HS : Hid (∀ w1, Below (w.alloc (.cells #[.int .u64 h, .int .i64 i] 96)).heap.size (w.alloc (.cells #[.int .u64 h, .int .i64 i] 96)) w1 → Calls Try.prog 150 #[.pointer (some ⟨p, 0, none⟩), .int .i64 23] w1 fun e w' => e = .returned (.int .i64 23) ∧ Sat w' (arAt p A.fault * R) ∧ Kept w1 w') := by
    intro w1 hb
    exact fault_any p 23 A w1 (H0.right.below hb)
  have HK2 : Hid (∀ w1 w2, Below (w.alloc (.cells #[.int .u64 h, .int .i64 i] 96)).heap.size (w.alloc (.cells #[.int .u64 h, .int .i64 i] 96)) w1 → Kept w1 w2 → Kept w w2) := fun w1 w2 hb hk => (HK.out.below hb).trans hk
  clear H H0 H1 hi hsee hf HK
  go_enter Try.func122, Try.ntmps122
  go_wp2_with fail
  refine (HF.out).mono ?_; rintro e w1 ⟨rfl, hb1⟩
  go_wp2_with fail
  refine (HS.out w1 hb1).mono ?_; rintro e w2 ⟨rfl, hs2, hk2⟩
  have hk3 := HK2.out w1 w2 hb1 hk2
  have Hs2 := Lib.hid hs2
  clear hs2 hk2 hb1
  go_wp2
  go_ret2
  exact ⟨rfl, Hs2.out, hk3⟩
theorem at_range_fixed (p : Nat) (i : Int) (A : Ar) (w : World) {R : Assn} (H : Sat w (arAt p A * R)) (hi : i < 0 ∨ 9 ≤ i) :
    Calls Try.prog 122 #[.pointer (some ⟨p, 0, none⟩), .agg #[.int .u64 0, .int .i64 i]] w fun e w' => e = .returned (.tuple #[.slice none 0 0, .int .i64 24]) ∧ Sat w' (arAt p A.fault * R) ∧ Kept w w' := by
  have H0 := (H.alloc (.cells #[.int .u64 0, .int .i64 i] 96)).right
  have HS := Lib.hid (fun n => fault_any p 24 A _ (H0.draws n))
  have HK : Hid (Kept w (w.alloc (.cells #[.int .u64 0, .int .i64 i] 96))) := (Kept.refl w).alloc _
  clear H H0
  rcases hi with hi | hi
  · have hd : decide (i < 0) = true := by simpa using hi
    go_enter Try.func122, Try.ntmps122
    go_wp2_with fail
    refine (HS.out 0).mono ?_; rintro e w2 ⟨rfl, hs2, hk2⟩
    have hk3 := HK.out.trans hk2
    have Hs2 := Lib.hid hs2
    clear hs2 hk2
    go_wp2
    go_ret2
    exact ⟨rfl, Hs2.out, hk3⟩
  · have hd : decide (i < 0) = false := by simp; omega
    have hd2 : decide (9 ≤ i) = true := by simpa using hi
    go_enter Try.func122, Try.ntmps122
    go_wp2_with fail
    refine (HS.out 0).mono ?_; rintro e w2 ⟨rfl, hs2, hk2⟩
    have hk3 := HK.out.trans hk2
    have Hs2 := Lib.hid hs2
    clear hs2 hk2
    go_wp2
    go_ret2
    exact ⟨rfl, Hs2.out, hk3⟩
theorem at_range_block (p h g n c : Nat) (i : Int) (A : Ar) (b : Blk) (w : World) {R : Assn} (H : Sat w (arAt p A * R)) (hh : h < TW) (h0 : h ≠ 0) (hf : A.find h = some b) (hv : b.v = .slice (some ⟨g, 0, none⟩) n c) (hi : i < 0 ∨ n ≤ i) :
    Calls Try.prog 122 #[.pointer (some ⟨p, 0, none⟩), .agg #[.int .u64 h, .int .i64 i]] w fun e w' => e = .returned (.tuple #[.slice none 0 0, .int .i64 24]) ∧ Sat w' (arAt p A.fault * R) ∧ Kept w w' := by
  have hne : ((h : Int) != 0) = true := by rw [bne_iff_ne]; omega
  have H0 := H.alloc (.cells #[.int .u64 h, .int .i64 i] 96)
  have HK : Hid (Kept w (w.alloc (.cells #[.int .u64 h, .int .i64 i] 96))) := (Kept.refl w).alloc _
  obtain ⟨ps, pb, hin, H1⟩ := arAt_open H0.swap
  have hsee := sees_of hin H1
  have hp := H1.lt
  have HF := Lib.hid (find_yes p h g n c A b _ hsee hh hf hv)
  have HS : Hid (∀ w1, Below (w.alloc (.cells #[.int .u64 h, .int .i64 i] 96)).heap.size (w.alloc (.cells #[.int .u64 h, .int .i64 i] 96)) w1 → Calls Try.prog 150 #[.pointer (some ⟨p, 0, none⟩), .int .i64 24] w1 fun e w' => e = .returned (.int .i64 24) ∧ Sat w' (arAt p A.fault * R) ∧ Kept w1 w') := by
    intro w1 hb
    exact fault_any p 24 A w1 (H0.right.below hb)
  have HK2 : Hid (∀ w1 w2, Below (w.alloc (.cells #[.int .u64 h, .int .i64 i] 96)).heap.size (w.alloc (.cells #[.int .u64 h, .int .i64 i] 96)) w1 → Kept w1 w2 → Kept w w2) := fun w1 w2 hb hk => (HK.out.below hb).trans hk
  clear H H0 H1 hin hsee hf HK hv
  rcases hi with hi | hi
  · have hd : decide (i < 0) = true := by simpa using hi
    go_enter Try.func122, Try.ntmps122
    go_wp2_with fail
    refine (HF.out).mono ?_; rintro e w1 ⟨rfl, hb1⟩
    have e1 := (hb1.cell (p := ⟨w.heap.size, 1, none⟩) (by simp)).trans (show (w.alloc (.cells #[.int .u64 h, .int .i64 i] 96)).cell? ⟨w.heap.size, 1, none⟩ = some (.int .i64 i) by go_simp)
    go_wp2_with fail
    refine (HS.out w1 hb1).mono ?_; rintro e w2 ⟨rfl, hs2, hk2⟩
    have hk3 := HK2.out w1 w2 hb1 hk2
    have Hs2 := Lib.hid hs2
    clear hs2 hk2 hb1
    go_wp2
    go_ret2
    exact ⟨rfl, Hs2.out, hk3⟩
  · have hd : decide (i < 0) = false := by simp; omega
    have hd2 : decide ((n : Int) ≤ i) = true := by simpa using hi
    go_enter Try.func122, Try.ntmps122
    go_wp2_with fail
    refine (HF.out).mono ?_; rintro e w1 ⟨rfl, hb1⟩
    have e1 := (hb1.cell (p := ⟨w.heap.size, 1, none⟩) (by simp)).trans (show (w.alloc (.cells #[.int .u64 h, .int .i64 i] 96)).cell? ⟨w.heap.size, 1, none⟩ = some (.int .i64 i) by go_simp)
    go_wp2_with fail
    refine (HS.out w1 hb1).mono ?_; rintro e w2 ⟨rfl, hs2, hk2⟩
    have hk3 := HK2.out w1 w2 hb1 hk2
    have Hs2 := Lib.hid hs2
    clear hs2 hk2 hb1
    go_wp2
    go_ret2
    exact ⟨rfl, Hs2.out, hk3⟩
end Go.Proofs.Ytnfpkadepomjjaa
