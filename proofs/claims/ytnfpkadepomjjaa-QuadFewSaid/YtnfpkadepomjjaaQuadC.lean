/- A walk through a tree, below a node. -/
import Derived.Test.YtnfpkadepomjjaaQuadB
set_option linter.all false
namespace Go.Proofs.Ytnfpkadepomjjaa
open Go.RowKit

theorem leafF_len (key : Int) (x : Nat) (st : WSt) : (leafF key x st).2.pairs.length ≤ st.pairs.length + 1 ∧ (leafF key x st).2.hs = st.hs := by
  unfold leafF; split
  · exact ⟨by simp, rfl⟩
  · exact ⟨by simp, rfl⟩
theorem digF_len {f : Nat → Int → WSt → Bool × WSt} {last : Bool} {key : Int} {d x : Nat} {s : Bool × WSt} {P H : Nat} (hP : 1 ≤ P)
    (hf : ∀ x key st, (f x key st).2.pairs.length ≤ st.pairs.length + P ∧ (f x key st).2.hs.length ≤ st.hs.length + H) :
    (digF f last key d x s).2.pairs.length ≤ s.2.pairs.length + P ∧ (digF f last key d x s).2.hs.length ≤ s.2.hs.length + H := by
  unfold digF
  split
  · exact ⟨by omega, by omega⟩
  · split
    · have := leafF_len (4 * key + d) x s.2
      exact ⟨by show (leafF _ _ _).2.pairs.length ≤ _; omega, by show (leafF _ _ _).2.hs.length ≤ _; rw [this.2]; omega⟩
    · split
      · exact hf _ _ _
      · exact ⟨by omega, by omega⟩
theorem belowF_len (ks : List (Nat × List Nat)) : ∀ (n h : Nat) (key : Int) (st : WSt), (belowF ks n h key st).2.pairs.length ≤ st.pairs.length + 4 ^ n ∧ (belowF ks n h key st).2.hs.length + 1 ≤ st.hs.length + 4 ^ n
  | 0, h, key, st => by simp [belowF]
  | n + 1, h, key, st => by
    have h4 : 1 ≤ 4 ^ n := Nat.one_le_pow _ _ (by omega)
    have hp : 4 ^ (n + 1) = 4 * 4 ^ n := by rw [Nat.pow_succ]; omega
    have ih : ∀ x key st, (belowF ks n x key st).2.pairs.length ≤ st.pairs.length + 4 ^ n ∧ (belowF ks n x key st).2.hs.length ≤ st.hs.length + (4 ^ n - 1) := fun x key st => by
      have := belowF_len ks n x key st
      omega
    unfold belowF
    simp only []
    split
    · have h0 := digF_len (last := n == 0) (key := key) (d := 0) (x := (nodeF ks h).1.1) (s := (true, { st with hs := st.hs ++ [h] })) h4 ih
      have h1 := digF_len (last := n == 0) (key := key) (d := 1) (x := (nodeF ks h).1.2.1) (s := digF (belowF ks n) (n == 0) key 0 (nodeF ks h).1.1 (true, { st with hs := st.hs ++ [h] })) h4 ih
      have h2 := digF_len (last := n == 0) (key := key) (d := 2) (x := (nodeF ks h).1.2.2.1) (s := digF (belowF ks n) (n == 0) key 1 (nodeF ks h).1.2.1 (digF (belowF ks n) (n == 0) key 0 (nodeF ks h).1.1 (true, { st with hs := st.hs ++ [h] }))) h4 ih
      have h3 := digF_len (last := n == 0) (key := key) (d := 3) (x := (nodeF ks h).1.2.2.2) (s := digF (belowF ks n) (n == 0) key 2 (nodeF ks h).1.2.2.1 (digF (belowF ks n) (n == 0) key 1 (nodeF ks h).1.2.1 (digF (belowF ks n) (n == 0) key 0 (nodeF ks h).1.1 (true, { st with hs := st.hs ++ [h] })))) h4 ih
      simp only [List.length_append, List.length_cons, List.length_nil] at h0 h1 h2 h3
      omega
    · simp only []
      omega
def sel4 (n : Nat × Nat × Nat × Nat) : Nat → Nat
  | 0 => n.1
  | 1 => n.2.1
  | 2 => n.2.2.1
  | _ => n.2.2.2
/-- How far a node's digits have been gone through. -/
def digs (ks : List (Nat × List Nat)) (n h : Nat) (key : Int) (st : WSt) : Nat → Bool × WSt
  | 0 => (true, { st with hs := st.hs ++ [h] })
  | i + 1 => digF (belowF ks n) (n == 0) key i (sel4 (nodeF ks h).1 i) (digs ks n h key st i)
theorem belowF_digs (ks : List (Nat × List Nat)) (n h : Nat) (key : Int) (st : WSt) : belowF ks (n + 1) h key st = if (nodeF ks h).2 then digs ks n h key st 4 else (false, st) := rfl
theorem digs_len (ks : List (Nat × List Nat)) (n h : Nat) (key : Int) (st : WSt) : ∀ i : Nat, (digs ks n h key st i).2.pairs.length ≤ st.pairs.length + i * 4 ^ n ∧ (digs ks n h key st i).2.hs.length ≤ st.hs.length + 1 + i * (4 ^ n - 1)
  | 0 => by simp [digs]
  | i + 1 => by
    have h4 : 1 ≤ 4 ^ n := Nat.one_le_pow _ _ (by omega)
    have ih : ∀ x key st, (belowF ks n x key st).2.pairs.length ≤ st.pairs.length + 4 ^ n ∧ (belowF ks n x key st).2.hs.length ≤ st.hs.length + (4 ^ n - 1) := fun x key st => by
      have := belowF_len ks n x key st
      omega
    have h1 := digF_len (last := n == 0) (key := key) (d := i) (x := sel4 (nodeF ks h).1 i) (s := digs ks n h key st i) h4 ih
    have h0 := digs_len ks n h key st i
    have e1 : (i + 1) * 4 ^ n = i * 4 ^ n + 4 ^ n := Nat.succ_mul _ _
    have e2 : (i + 1) * (4 ^ n - 1) = i * (4 ^ n - 1) + (4 ^ n - 1) := Nat.succ_mul _ _
    show (digF _ _ _ _ _ _).2.pairs.length ≤ _ ∧ (digF _ _ _ _ _ _).2.hs.length ≤ _
    omega

theorem run_index4_0 (a b c d : Nat) (w : World) : (Instr.index 62 (.agg #[.int .u64 a, .int .u64 b, .int .u64 c, .int .u64 d]) (.int .i64 0)).run Try.prog w = .ok (.int .u64 (sel4 (a, b, c, d) 0 : Nat)) w := by kernel_rfl
theorem run_index4_1 (a b c d : Nat) (w : World) : (Instr.index 62 (.agg #[.int .u64 a, .int .u64 b, .int .u64 c, .int .u64 d]) (.int .i64 1)).run Try.prog w = .ok (.int .u64 (sel4 (a, b, c, d) 1 : Nat)) w := by kernel_rfl
theorem run_index4_2 (a b c d : Nat) (w : World) : (Instr.index 62 (.agg #[.int .u64 a, .int .u64 b, .int .u64 c, .int .u64 d]) (.int .i64 2)).run Try.prog w = .ok (.int .u64 (sel4 (a, b, c, d) 2 : Nat)) w := by kernel_rfl
theorem run_index4_3 (a b c d : Nat) (w : World) : (Instr.index 62 (.agg #[.int .u64 a, .int .u64 b, .int .u64 c, .int .u64 d]) (.int .i64 3)).run Try.prog w = .ok (.int .u64 (sel4 (a, b, c, d) 3 : Nat)) w := by kernel_rfl
theorem digF_0 {f : Nat → Int → WSt → Bool × WSt} {last : Bool} {key : Int} {d x : Nat} {s : Bool × WSt} (hx : x = 0) : digF f last key d x s = s := by unfold digF; rw [if_pos hx]
theorem digF_leaf {f : Nat → Int → WSt → Bool × WSt} {key kd : Int} {d x : Nat} {ob : Bool} {st : WSt} (hk : kd = 4 * key + (d : Int)) (hx : ¬ x = 0) : digF f true key d x (ob, st) = ((leafF kd x st).1 && ob, (leafF kd x st).2) := by
  subst hk; unfold digF; rw [if_neg hx]; rfl
theorem digF_down {f : Nat → Int → WSt → Bool × WSt} {key kd : Int} {d x : Nat} {st : WSt} (hk : kd = 4 * key + (d : Int)) (hx : ¬ x = 0) : digF f false key d x (true, st) = f x kd st := by
  subst hk; unfold digF; rw [if_neg hx]; rfl
theorem digF_no {f : Nat → Int → WSt → Bool × WSt} {key : Int} {d x : Nat} {st : WSt} (hx : ¬ x = 0) : digF f false key d x (false, st) = (false, st) := by
  unfold digF; rw [if_neg hx]; rfl
theorem digs_room (ks : List (Nat × List Nat)) (n h : Nat) (key : Int) (st : WSt) (hlp : st.pairs.length + 4 ^ (n + 1) ≤ 1000000) (hlh : st.hs.length + 4 ^ (n + 1) ≤ 1000000) (i : Nat) (hi : i < 4) :
    (digs ks n h key st i).2.pairs.length + 4 ^ n ≤ 1000000 ∧ (digs ks n h key st i).2.hs.length + 4 ^ n ≤ 1000000 ∧ (digs ks n h key st i).2.pairs.length ≤ 1000000 := by
  have h1 := digs_len ks n h key st i
  have h2 : 4 ^ (n + 1) = 4 * 4 ^ n := by rw [Nat.pow_succ]; omega
  have h3 : 1 ≤ 4 ^ n := Nat.one_le_pow _ _ (by omega)
  rw [h2] at hlp hlh
  generalize 4 ^ n = Q at *
  have h4 : i * Q ≤ 3 * Q := Nat.mul_le_mul_right _ (by omega)
  have h5 : i * (Q - 1) ≤ 3 * (Q - 1) := Nat.mul_le_mul_right _ (by omega)
  omega
theorem or_all : ((List.range 64).all fun k => (List.range 4).all fun d => bits BinOp.or IntKind.i64 (wrap64 ((k : Int) * 4)) (d : Int) == 4 * (k : Int) + (d : Int)) = true := by kernel_rfl
theorem or_key {key : Int} (h0 : 0 ≤ key) (h1 : key < 64) (d : Nat) (hd : d < 4) : bits BinOp.or IntKind.i64 (wrap64 (key * 4)) (d : Int) = 4 * key + (d : Int) := by
  obtain ⟨k, rfl⟩ := Int.eq_ofNat_of_zero_le h0
  have h := List.all_eq_true.1 (List.all_eq_true.1 or_all k (List.mem_range.2 (by omega))) d (List.mem_range.2 hd)
  exact eq_of_beq h
theorem nodeF_lt {ks : List (Nat × List Nat)} (hw : ∀ b ∈ ks, ∀ x ∈ b.2, x < TW) (h : Nat) : ∀ i, i < 4 → sel4 (nodeF ks h).1 i < TW := by
  intro i hi
  unfold nodeF
  split
  · rename_i a b c d e
    have hm := List.mem_of_find?_eq_some e
    have := hw _ hm
    match i, hi with
    | 0, _ => exact this a (by simp)
    | 1, _ => exact this b (by simp)
    | 2, _ => exact this c (by simp)
    | 3, _ => exact this d (by simp)
  · match i, hi with
    | 0, _ => decide
    | 1, _ => decide
    | 2, _ => decide
    | 3, _ => decide
/-- What 'below' does at a node, so many levels left. -/
def BelowOk (pw m : Nat) (xs : Wds) (n : Nat) : Prop := ∀ (h : Nat) (key : Int) (st : WSt) (w : World) (R : Assn), Sat w (walkAt pw m st * (wordsAt m xs * R)) → h < TW → 0 ≤ key → key < 4 ^ (4 - n) → st.pairs.length + 4 ^ n ≤ 1000000 → st.hs.length + 4 ^ n ≤ 1000000 →
  Calls Try.prog 186 #[.pointer (some ⟨pw, 0, none⟩), .int .u64 h, .int .i64 (4 - n : Nat), .int .i64 key] w fun e w' => e = .returned (.bool (belowF (xs.map keyW) n h key st).1) ∧ Sat w' (walkAt pw m (belowF (xs.map keyW) n h key st).2 * (wordsAt m xs * R)) ∧ Kept w w'

theorem wrap64_small {x : Int} (h0 : 0 ≤ x) (h1 : x < 9223372036854775808) : wrap64 x = x := by
  rw [← IntWalk.i64_left]
  exact IntWalk.i64_in _ (by omega)
set_option maxHeartbeats 3200000 in
set_option maxRecDepth 100000 in
theorem below_step (pw m : Nat) (xs : Wds) (hw : ∀ b ∈ xs, ∀ x ∈ b.2.1, x < TW) (n : Nat) (hn : n < 4) (hih : n = 0 ∨ BelowOk pw m xs n) : BelowOk pw m xs (n + 1) := by
  intro h key st w R H hh hk0 hk1 hlp hlh
  rw [belowF_digs]
  obtain ⟨L, hL⟩ : ∃ L, L = 4 - (n + 1) := ⟨_, rfl⟩
  have hLn : L + n = 3 := by omega
  rw [← hL]
  rw [← hL] at hk1
  clear hL
  have hL4 : L = 0 ∨ L = 1 ∨ L = 2 ∨ L = 3 := by omega
  have hk64 : key < 64 := by
    clear hLn
    rcases hL4 with rfl | rfl | rfl | rfl <;> simp at hk1 <;> omega
  have hkL : 4 * key + 3 < 4 ^ (L + 1) := by
    clear hLn
    rcases hL4 with rfl | rfl | rfl | rfl <;> simp at hk1 ⊢ <;> omega
  have hpn : 4 ^ (n + 1) = 4 * 4 ^ n := by rw [Nat.pow_succ]; omega
  have hpn1 : 1 ≤ 4 ^ n := Nat.one_le_pow _ _ (by omega)
  have hpow : 1 ≤ 4 ^ (n + 1) := Nat.one_le_pow _ _ (by omega)
  obtain ⟨vp, vh, H1⟩ := walkAt_open H
  have HN := Lib.hid (node_calls pw m vp vh xs h w (H1.cast (Q := own pw (.cells #[.map (some m), vp, vh] 220 (0, 0)) * (wordsAt m xs * (rowK 110 2 vp st.pairs.length (pcells st.pairs) * (rowK 25 1 vh st.hs.length (u64s st.hs) * R)))) (by ac_rfl)))
  have HH := Lib.hid H
  have HH1 := Lib.hid H1
  have hselF : ∀ i, i < 4 → sel4 (nodeF (xs.map keyW) h).1 i < TW := nodeF_lt (fun b hb x hx => by
    obtain ⟨c, hc, rfl⟩ := List.mem_map.1 hb
    exact hw c hc x hx) h
  obtain ⟨⟨⟨a, b, c, d⟩, bo⟩, hNF⟩ : ∃ N, N = nodeF (xs.map keyW) h := ⟨_, rfl⟩
  rw [← hNF] at HN ⊢
  rw [← hNF] at hselF
  have hsel : ∀ i, i < 4 → sel4 (a, b, c, d) i < TW := hselF
  simp only [cells4] at HN ⊢
  cases bo with
  | false =>
    simp only [Bool.false_eq_true, if_false]
    clear H H1
    go_enter Try.func186, Try.ntmps186
    go_wp2_with fail
    refine (HN.out).mono ?_; rintro e w1 ⟨rfl, hb⟩
    go_wp2
    go_ret
    exact ⟨rfl, (HH.out.below hb).alloc _ |>.right, ((Kept.refl w).below hb).alloc _⟩
  | true =>
    simp only [if_true]
    have HD : Hid (∀ i, digs (xs.map keyW) n h key st (i + 1) = digF (belowF (xs.map keyW) n) (n == 0) key i (sel4 (a, b, c, d) i) (digs (xs.map keyW) n h key st i)) := by
      intro i
      rw [digs, ← hNF]
    clear H H1
    go_enter Try.func186, Try.ntmps186
    go_wp2_with fail
    refine (HN.out).mono ?_; rintro e w1 ⟨rfl, hb⟩
    have H2 := ((HH1.out.below hb).alloc (.cells #[.int .u64 a, .int .u64 b, .int .u64 c, .int .u64 d] 62))
    have HK2 := Lib.hid ((((Kept.refl w).below hb).alloc (.cells #[.int .u64 a, .int .u64 b, .int .u64 c, .int .u64 d] 62)).alloc (.cells #[.int .u64 h] 25))
    have H2 := H2.cast (Q := own pw (.cells #[.map (some m), vp, vh] 220 (0, 0)) * (own w1.heap.size (.cells #[.int .u64 a, .int .u64 b, .int .u64 c, .int .u64 d] 62 (0, 0)) * (rowK 110 2 vp st.pairs.length (pcells st.pairs) * (rowK 25 1 vh st.hs.length (u64s st.hs) * (wordsAt m xs * R))))) (by ac_rfl)
    have c2 := H2.cell 2
    have f2 := H2.free 2
    simp at c2
    have hlt2 := H2.lt
    have H3 := (H2.alloc (.cells #[.int .u64 h] 25)).cast (Q := rowK 25 1 vh st.hs.length (u64s st.hs) * (own (w1.alloc (.cells #[.int .u64 a, .int .u64 b, .int .u64 c, .int .u64 d] 62)).heap.size (.cells #[.int .u64 h] 25 (0, 0)) * (own pw (.cells #[.map (some m), vp, vh] 220 (0, 0)) * (own w1.heap.size (.cells #[.int .u64 a, .int .u64 b, .int .u64 c, .int .u64 d] 62 (0, 0)) * (rowK 110 2 vp st.pairs.length (pcells st.pairs) * (wordsAt m xs * R)))))) (by ac_rfl)
    have hown := rowK_owns H3
    have hn0 := H3.swap.cell 0
    have HH3 := Lib.hid H3
    obtain ⟨iu, hi, hz0, hz1, hz2⟩ := info_parts info_u64
    have HL := Lib.hid (And.intro hlp hlh)
    clear H2 H3 hlp hlh
    go_wp2_with (at_builtin; refine wpList_append_own_at _ rfl _ _ 32 rfl 0 25 iu (.int .u64 0) 1 8 Try.underlying32 hi hz0 hz1 hz2 rfl (by decide) vh st.hs.length (u64s st.hs) rfl hown ⟨w1.heap.size + 1, 0, none⟩ 1 1 [.int .u64 h] rfl rfl ?c1 ?c2 ?c3 ?c4 (Nat.zero_le _) ?_)
    case c1 =>
      intro j u hj
      rw [Addr.add_mid]
      match j, hj with
      | 0, hj => simp only [List.getElem?_cons_zero, Option.some.injEq] at hj; subst hj; simpa using hn0
      | _ + 1, hj => simp at hj
    case c2 => intro u hu; simp only [List.mem_cons, List.not_mem_nil, or_false] at hu; subst hu; rfl
    case c3 => have := HL.out; unfold maxLen; omega
    case c4 => have := HL.out; omega
    intro v' w3 hown' hgrow _ hblk
    have H4 := rowK_appended HH3.out hown' hgrow (by simpa using hblk)
    obtain ⟨va, vc, rfl⟩ := rowK_len H4
    have HK4 := Lib.hid (HK2.out.grown hgrow)
    have H4 := H4.cast (Q := own pw (.cells #[.map (some m), vp, vh] 220 (0, 0)) * (own w1.heap.size (.cells #[.int .u64 a, .int .u64 b, .int .u64 c, .int .u64 d] 62 (0, 0)) * (rowK 25 1 (.slice va (st.hs.length + 1) vc) (st.hs.length + 1) (u64s st.hs ++ [.int .u64 h]) * (rowK 110 2 vp st.pairs.length (pcells st.pairs) * (own (w1.alloc (.cells #[.int .u64 a, .int .u64 b, .int .u64 c, .int .u64 d] 62)).heap.size (.cells #[.int .u64 h] 25 (0, 0)) * (wordsAt m xs * R)))))) (by ac_rfl)
    have d2 := H4.cell 2
    have g2 := H4.free 2
    simp at d2
    have y0 := H4.swap.cell 0
    have y1 := H4.swap.cell 1
    have y2 := H4.swap.cell 2
    have y3 := H4.swap.cell 3
    simp at y0 y1 y2 y3
    have hne := H4.ne
    have H5 : Hid (Sat (w3.setCell ⟨pw, 2, none⟩ (.slice va (st.hs.length + 1) vc)) (walkAt pw m (digs (xs.map keyW) n h key st 0).2 * (wordsAt m xs * R))) := by
      have h1 := H4.set 2 (.slice va (st.hs.length + 1) vc)
      have e : u64s (st.hs ++ [h]) = u64s st.hs ++ [.int .u64 h] := by simp [u64s]
      refine walkAt_shut (vp := vp) (vh := .slice va (st.hs.length + 1) vc) ?_
      simp only [digs]
      rw [e, List.length_append]
      simp at h1
      exact (h1.cast (Q := (own w1.heap.size (.cells #[.int .u64 a, .int .u64 b, .int .u64 c, .int .u64 d] 62 (0, 0)) * own (w1.heap.size + 1) (.cells #[.int .u64 h] 25 (0, 0))) * (own pw (.cells #[.map (some m), vp, .slice va (st.hs.length + 1) vc] 220 (0, 0)) * (rowK 110 2 vp st.pairs.length (pcells st.pairs) * (rowK 25 1 (.slice va (st.hs.length + 1) vc) (st.hs.length + 1) (u64s st.hs ++ [.int .u64 h]) * (wordsAt m xs * R))))) (by ac_rfl)).right
    have HK5 : Hid (Kept w (w3.setCell ⟨pw, 2, none⟩ (.slice va (st.hs.length + 1) vc))) := HK4.out.setCell _ _
    clear c2 f2 hown' hgrow hblk hn0 hown HH3 H4 HH HH1
    generalize w1.heap.size = y at *
    go_wp2_with fail
    clear d2 g2 y0 y1 y2 y3 HN HK4 HK2 hz0 hz1 hz2 hi
    generalize World.setCell w3 _ _ = w5 at *
    go_loopw [10, 11, 12, 13, 33] (fun v10 _ _ _ v33 wr => ∃ i : Nat, i ≤ 4 ∧ v33 = .int .i64 i ∧ v10 = .bool (digs (xs.map keyW) n h key st i).1 ∧ Kept w wr ∧ Sat wr (walkAt pw m (digs (xs.map keyW) n h key st i).2 * (wordsAt m xs * R)))
      (fun _ _ _ _ v33 _ => 4 - (intOf v33).toNat)
    case atStart => exact ⟨0, by omega, rfl, rfl, HK5.out, H5.out⟩
    case round =>
      obtain ⟨i, hi4, rfl, rfl, hk, hs⟩ := hrel
      rcases Nat.lt_or_ge i 4 with hi | hi
      · have HDi := HD.out i
        have Hs := Lib.hid hs
        have HK := Lib.hid hk
        have HRm := digs_room (xs.map keyW) n h key st HL.out.1 HL.out.2 i hi
        clear hs hk HD H5 HK5
        obtain ⟨S1, hS1⟩ : ∃ S1, S1 = digs (xs.map keyW) n h key st (i + 1) := ⟨_, rfl⟩
        rw [← hS1] at HDi
        generalize digs (xs.map keyW) n h key st i = S0 at *
        obtain ⟨ob, s0⟩ := S0
        have hwk : wrap64 (key * 4) = key * 4 := wrap64_small (by omega) (by omega)
        have hix : i = 0 ∨ i = 1 ∨ i = 2 ∨ i = 3 := by omega
        rcases hix with rfl | rfl | rfl | rfl
        · have hidx := run_index4_0 a b c d
          have hxT : sel4 (a, b, c, d) 0 < TW := hsel 0 (by omega)
          obtain ⟨kd, hkdE⟩ : ∃ kd : Int, kd = 4 * key + ((0 : Nat) : Int) := ⟨_, rfl⟩
          have hor : bits BinOp.or IntKind.i64 (wrap64 (key * 4)) 0 = kd := hkdE ▸ or_key hk0 hk64 0 (by omega)
          have hor2 := hwk ▸ hor
          have hkd0 : 0 ≤ kd := by omega
          have hkd : kd < 4 ^ (L + 1) := by omega
          generalize sel4 (a, b, c, d) 0 = xv at *
          by_cases hx0 : xv = 0
          · have hxd : ((xv : Int) == 0) = true := by simp [hx0]
            have e : S1 = (ob, s0) := HDi.trans (digF_0 hx0)
            clear HDi hkdE hkd hkd0
            subst e
            go_wp2
            go_roundw
            case rel => exact ⟨0 + 1, by omega, by simp, by rw [← hS1], HK.out, by rw [← hS1]; exact Hs.out⟩
            case measure => simp [intOf]
          · have hxd : ((xv : Int) == 0) = false := by simpa using hx0
            by_cases hn0 : n = 0
            · have hLd : ((L : Int) == 3) = true := by
                have : L = 3 := by omega
                rw [this]; rfl
              rw [show (n == 0) = true by simp [hn0]] at HDi
              have e := HDi.trans (digF_leaf hkdE hx0)
              clear HDi hkdE hkd hkd0
              have HLf := Lib.hid (leaf_calls pw m s0 kd xv wr Hs.out hxT HRm.2.2)
              generalize leafF kd xv s0 = LF at *
              obtain ⟨lb, ls⟩ := LF
              subst e
              go_wp2_with fail
              refine HLf.out.mono ?_; rintro e w6 ⟨rfl, hs6, hk6⟩
              have Hs6 := Lib.hid hs6
              have HK6 := Lib.hid (HK.out.trans hk6)
              clear hs6 hk6 HLf Hs HK
              cases lb <;> cases ob
              all_goals
                go_wp2
                go_roundw
                case rel => exact ⟨0 + 1, by omega, by simp, by rw [← hS1]; rfl, HK6.out, by rw [← hS1]; exact Hs6.out⟩
                case measure => simp [intOf]
            · have hLd : ((L : Int) == 3) = false := by
                have : L ≠ 3 := by omega
                simpa using fun h => this (by omega)
              have hwL : IntKind.i64.wrap ((L : Int) + 1) = (L : Int) + 1 := IntWalk.i64_in _ (by omega)
              rw [show (n == 0) = false by simpa using hn0] at HDi
              cases ob with
              | false =>
                have e := HDi.trans (digF_no hx0)
                clear HDi hkdE hkd hkd0
                subst e
                go_wp2
                go_roundw
                case rel => exact ⟨0 + 1, by omega, by simp, by rw [← hS1], HK.out, by rw [← hS1]; exact Hs.out⟩
                case measure => simp [intOf]
              | true =>
                have e := HDi.trans (digF_down hkdE hx0)
                have HB := hih.resolve_left hn0 xv kd s0 wr _ Hs.out hxT hkd0 (by rw [show 4 - n = L + 1 by omega]; exact hkd) HRm.1 HRm.2.1
                rw [← e] at HB
                rw [show ((4 - n : Nat) : Int) = (L : Int) + 1 by omega] at HB
                have HB := Lib.hid HB
                clear HDi e hkdE hkd hkd0
                obtain ⟨lb, ls⟩ := S1
                go_wp2_with fail
                refine HB.out.mono ?_; rintro e w6 ⟨rfl, hs6, hk6⟩
                have Hs6 := Lib.hid hs6
                have HK6 := Lib.hid (HK.out.trans hk6)
                clear hs6 hk6 HB Hs HK
                go_wp2
                go_roundw
                case rel => exact ⟨0 + 1, by omega, by simp, by rw [← hS1], HK6.out, by rw [← hS1]; exact Hs6.out⟩
                case measure => simp [intOf]
        · have hidx := run_index4_1 a b c d
          have hxT : sel4 (a, b, c, d) 1 < TW := hsel 1 (by omega)
          obtain ⟨kd, hkdE⟩ : ∃ kd : Int, kd = 4 * key + ((1 : Nat) : Int) := ⟨_, rfl⟩
          have hor : bits BinOp.or IntKind.i64 (wrap64 (key * 4)) 1 = kd := hkdE ▸ or_key hk0 hk64 1 (by omega)
          have hor2 := hwk ▸ hor
          have hkd0 : 0 ≤ kd := by omega
          have hkd : kd < 4 ^ (L + 1) := by omega
          generalize sel4 (a, b, c, d) 1 = xv at *
          by_cases hx0 : xv = 0
          · have hxd : ((xv : Int) == 0) = true := by simp [hx0]
            have e : S1 = (ob, s0) := HDi.trans (digF_0 hx0)
            clear HDi hkdE hkd hkd0
            subst e
            go_wp2
            go_roundw
            case rel => exact ⟨1 + 1, by omega, by simp, by rw [← hS1], HK.out, by rw [← hS1]; exact Hs.out⟩
            case measure => simp [intOf]
          · have hxd : ((xv : Int) == 0) = false := by simpa using hx0
            by_cases hn0 : n = 0
            · have hLd : ((L : Int) == 3) = true := by
                have : L = 3 := by omega
                rw [this]; rfl
              rw [show (n == 0) = true by simp [hn0]] at HDi
              have e := HDi.trans (digF_leaf hkdE hx0)
              clear HDi hkdE hkd hkd0
              have HLf := Lib.hid (leaf_calls pw m s0 kd xv wr Hs.out hxT HRm.2.2)
              generalize leafF kd xv s0 = LF at *
              obtain ⟨lb, ls⟩ := LF
              subst e
              go_wp2_with fail
              refine HLf.out.mono ?_; rintro e w6 ⟨rfl, hs6, hk6⟩
              have Hs6 := Lib.hid hs6
              have HK6 := Lib.hid (HK.out.trans hk6)
              clear hs6 hk6 HLf Hs HK
              cases lb <;> cases ob
              all_goals
                go_wp2
                go_roundw
                case rel => exact ⟨1 + 1, by omega, by simp, by rw [← hS1]; rfl, HK6.out, by rw [← hS1]; exact Hs6.out⟩
                case measure => simp [intOf]
            · have hLd : ((L : Int) == 3) = false := by
                have : L ≠ 3 := by omega
                simpa using fun h => this (by omega)
              have hwL : IntKind.i64.wrap ((L : Int) + 1) = (L : Int) + 1 := IntWalk.i64_in _ (by omega)
              rw [show (n == 0) = false by simpa using hn0] at HDi
              cases ob with
              | false =>
                have e := HDi.trans (digF_no hx0)
                clear HDi hkdE hkd hkd0
                subst e
                go_wp2
                go_roundw
                case rel => exact ⟨1 + 1, by omega, by simp, by rw [← hS1], HK.out, by rw [← hS1]; exact Hs.out⟩
                case measure => simp [intOf]
              | true =>
                have e := HDi.trans (digF_down hkdE hx0)
                have HB := hih.resolve_left hn0 xv kd s0 wr _ Hs.out hxT hkd0 (by rw [show 4 - n = L + 1 by omega]; exact hkd) HRm.1 HRm.2.1
                rw [← e] at HB
                rw [show ((4 - n : Nat) : Int) = (L : Int) + 1 by omega] at HB
                have HB := Lib.hid HB
                clear HDi e hkdE hkd hkd0
                obtain ⟨lb, ls⟩ := S1
                go_wp2_with fail
                refine HB.out.mono ?_; rintro e w6 ⟨rfl, hs6, hk6⟩
                have Hs6 := Lib.hid hs6
                have HK6 := Lib.hid (HK.out.trans hk6)
                clear hs6 hk6 HB Hs HK
                go_wp2
                go_roundw
                case rel => exact ⟨1 + 1, by omega, by simp, by rw [← hS1], HK6.out, by rw [← hS1]; exact Hs6.out⟩
                case measure => simp [intOf]
        · have hidx := run_index4_2 a b c d
          have hxT : sel4 (a, b, c, d) 2 < TW := hsel 2 (by omega)
          obtain ⟨kd, hkdE⟩ : ∃ kd : Int, kd = 4 * key + ((2 : Nat) : Int) := ⟨_, rfl⟩
          have hor : bits BinOp.or IntKind.i64 (wrap64 (key * 4)) 2 = kd := hkdE ▸ or_key hk0 hk64 2 (by omega)
          have hor2 := hwk ▸ hor
          have hkd0 : 0 ≤ kd := by omega
          have hkd : kd < 4 ^ (L + 1) := by omega
          generalize sel4 (a, b, c, d) 2 = xv at *
          by_cases hx0 : xv = 0
          · have hxd : ((xv : Int) == 0) = true := by simp [hx0]
            have e : S1 = (ob, s0) := HDi.trans (digF_0 hx0)
            clear HDi hkdE hkd hkd0
            subst e
            go_wp2
            go_roundw
            case rel => exact ⟨2 + 1, by omega, by simp, by rw [← hS1], HK.out, by rw [← hS1]; exact Hs.out⟩
            case measure => simp [intOf]
          · have hxd : ((xv : Int) == 0) = false := by simpa using hx0
            by_cases hn0 : n = 0
            · have hLd : ((L : Int) == 3) = true := by
                have : L = 3 := by omega
                rw [this]; rfl
              rw [show (n == 0) = true by simp [hn0]] at HDi
              have e := HDi.trans (digF_leaf hkdE hx0)
              clear HDi hkdE hkd hkd0
              have HLf := Lib.hid (leaf_calls pw m s0 kd xv wr Hs.out hxT HRm.2.2)
              generalize leafF kd xv s0 = LF at *
              obtain ⟨lb, ls⟩ := LF
              subst e
              go_wp2_with fail
              refine HLf.out.mono ?_; rintro e w6 ⟨rfl, hs6, hk6⟩
              have Hs6 := Lib.hid hs6
              have HK6 := Lib.hid (HK.out.trans hk6)
              clear hs6 hk6 HLf Hs HK
              cases lb <;> cases ob
              all_goals
                go_wp2
                go_roundw
                case rel => exact ⟨2 + 1, by omega, by simp, by rw [← hS1]; rfl, HK6.out, by rw [← hS1]; exact Hs6.out⟩
                case measure => simp [intOf]
            · have hLd : ((L : Int) == 3) = false := by
                have : L ≠ 3 := by omega
                simpa using fun h => this (by omega)
              have hwL : IntKind.i64.wrap ((L : Int) + 1) = (L : Int) + 1 := IntWalk.i64_in _ (by omega)
              rw [show (n == 0) = false by simpa using hn0] at HDi
              cases ob with
              | false =>
                have e := HDi.trans (digF_no hx0)
                clear HDi hkdE hkd hkd0
                subst e
                go_wp2
                go_roundw
                case rel => exact ⟨2 + 1, by omega, by simp, by rw [← hS1], HK.out, by rw [← hS1]; exact Hs.out⟩
                case measure => simp [intOf]
              | true =>
                have e := HDi.trans (digF_down hkdE hx0)
                have HB := hih.resolve_left hn0 xv kd s0 wr _ Hs.out hxT hkd0 (by rw [show 4 - n = L + 1 by omega]; exact hkd) HRm.1 HRm.2.1
                rw [← e] at HB
                rw [show ((4 - n : Nat) : Int) = (L : Int) + 1 by omega] at HB
                have HB := Lib.hid HB
                clear HDi e hkdE hkd hkd0
                obtain ⟨lb, ls⟩ := S1
                go_wp2_with fail
                refine HB.out.mono ?_; rintro e w6 ⟨rfl, hs6, hk6⟩
                have Hs6 := Lib.hid hs6
                have HK6 := Lib.hid (HK.out.trans hk6)
                clear hs6 hk6 HB Hs HK
                go_wp2
                go_roundw
                case rel => exact ⟨2 + 1, by omega, by simp, by rw [← hS1], HK6.out, by rw [← hS1]; exact Hs6.out⟩
                case measure => simp [intOf]
        · have hidx := run_index4_3 a b c d
          have hxT : sel4 (a, b, c, d) 3 < TW := hsel 3 (by omega)
          obtain ⟨kd, hkdE⟩ : ∃ kd : Int, kd = 4 * key + ((3 : Nat) : Int) := ⟨_, rfl⟩
          have hor : bits BinOp.or IntKind.i64 (wrap64 (key * 4)) 3 = kd := hkdE ▸ or_key hk0 hk64 3 (by omega)
          have hor2 := hwk ▸ hor
          have hkd0 : 0 ≤ kd := by omega
          have hkd : kd < 4 ^ (L + 1) := by omega
          generalize sel4 (a, b, c, d) 3 = xv at *
          by_cases hx0 : xv = 0
          · have hxd : ((xv : Int) == 0) = true := by simp [hx0]
            have e : S1 = (ob, s0) := HDi.trans (digF_0 hx0)
            clear HDi hkdE hkd hkd0
            subst e
            go_wp2
            go_roundw
            case rel => exact ⟨3 + 1, by omega, by simp, by rw [← hS1], HK.out, by rw [← hS1]; exact Hs.out⟩
            case measure => simp [intOf]
          · have hxd : ((xv : Int) == 0) = false := by simpa using hx0
            by_cases hn0 : n = 0
            · have hLd : ((L : Int) == 3) = true := by
                have : L = 3 := by omega
                rw [this]; rfl
              rw [show (n == 0) = true by simp [hn0]] at HDi
              have e := HDi.trans (digF_leaf hkdE hx0)
              clear HDi hkdE hkd hkd0
              have HLf := Lib.hid (leaf_calls pw m s0 kd xv wr Hs.out hxT HRm.2.2)
              generalize leafF kd xv s0 = LF at *
              obtain ⟨lb, ls⟩ := LF
              subst e
              go_wp2_with fail
              refine HLf.out.mono ?_; rintro e w6 ⟨rfl, hs6, hk6⟩
              have Hs6 := Lib.hid hs6
              have HK6 := Lib.hid (HK.out.trans hk6)
              clear hs6 hk6 HLf Hs HK
              cases lb <;> cases ob
              all_goals
                go_wp2
                go_roundw
                case rel => exact ⟨3 + 1, by omega, by simp, by rw [← hS1]; rfl, HK6.out, by rw [← hS1]; exact Hs6.out⟩
                case measure => simp [intOf]
            · have hLd : ((L : Int) == 3) = false := by
                have : L ≠ 3 := by omega
                simpa using fun h => this (by omega)
              have hwL : IntKind.i64.wrap ((L : Int) + 1) = (L : Int) + 1 := IntWalk.i64_in _ (by omega)
              rw [show (n == 0) = false by simpa using hn0] at HDi
              cases ob with
              | false =>
                have e := HDi.trans (digF_no hx0)
                clear HDi hkdE hkd hkd0
                subst e
                go_wp2
                go_roundw
                case rel => exact ⟨3 + 1, by omega, by simp, by rw [← hS1], HK.out, by rw [← hS1]; exact Hs.out⟩
                case measure => simp [intOf]
              | true =>
                have e := HDi.trans (digF_down hkdE hx0)
                have HB := hih.resolve_left hn0 xv kd s0 wr _ Hs.out hxT hkd0 (by rw [show 4 - n = L + 1 by omega]; exact hkd) HRm.1 HRm.2.1
                rw [← e] at HB
                rw [show ((4 - n : Nat) : Int) = (L : Int) + 1 by omega] at HB
                have HB := Lib.hid HB
                clear HDi e hkdE hkd hkd0
                obtain ⟨lb, ls⟩ := S1
                go_wp2_with fail
                refine HB.out.mono ?_; rintro e w6 ⟨rfl, hs6, hk6⟩
                have Hs6 := Lib.hid hs6
                have HK6 := Lib.hid (HK.out.trans hk6)
                clear hs6 hk6 HB Hs HK
                go_wp2
                go_roundw
                case rel => exact ⟨3 + 1, by omega, by simp, by rw [← hS1], HK6.out, by rw [← hS1]; exact Hs6.out⟩
                case measure => simp [intOf]
      · obtain rfl : i = 4 := by omega
        go_wp2
        go_ret
        exact ⟨rfl, hs, hk⟩
theorem below_all (pw m : Nat) (xs : Wds) (hw : ∀ b ∈ xs, ∀ x ∈ b.2.1, x < TW) : ∀ n, n < 4 → BelowOk pw m xs (n + 1)
  | 0, h => below_step pw m xs hw 0 h (.inl rfl)
  | n + 1, h => below_step pw m xs hw (n + 1) h (.inr (below_all pw m xs hw n (by omega)))
end Go.Proofs.Ytnfpkadepomjjaa
