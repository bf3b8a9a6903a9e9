/- The first blocks of an arena (layer 3's statements): the walk. -/
import Derived.Test.YtnfpkadepomjjaaAllB
import Derived.Test.YtnfpkadepomjjaaBaseB
import Derived.Test.YtnfpkadepomjjaaBaseC
set_option linter.all false
namespace Go.Proofs.Ytnfpkadepomjjaa
open Go Go.RowKit Go.Shelf
attribute [local go_sem] Oper.semAt_some

def bcells (l : List (Nat × List Nat × Value)) : List Value := l.flatMap fun y => [.int .u64 y.1, y.2.2]
theorem bcells_len : ∀ l, (bcells l).length = l.length * 2
  | [] => rfl
  | y :: l => by
    have := bcells_len l
    simp only [bcells, List.flatMap_cons, List.length_append, List.length_cons, List.length_nil] at this ⊢
    omega
theorem info_blk : (Try.prog.info? 123).map (fun i => (i.zero, i.size, i.bytes)) = some (some (.agg #[.int .u64 0, .slice none 0 0]), 2, 32) := by kernel_rfl
theorem rowK_slice {w : World} {T : TypeId} {k n : Nat} {v : Value} {xs : List Value} {R : Assn} (h : Sat w (rowK T k v n xs * R)) : ∃ a c, v = .slice a n c := by
  obtain ⟨h0, ⟨rfl, h1, _⟩ | ⟨g, cap, cur, rfl, _⟩⟩ := rowK_open h
  · subst h1
    exact ⟨none, 0, rfl⟩
  · exact ⟨_, _, rfl⟩
/-- One more. -/
theorem blk_app {w : World} {v : Value} {n : Nat} {l : List (Nat × List Nat × Value)} {y : Nat × List Nat × Value} {Q : Assn} (hn : n = l.length) (H : Sat w (rowK 123 2 v n (bcells l) * Q)) (hy : y.2.2.oneCell' = true) (hb : n + 1 ≤ 1000000000) :
    ∃ v' w', (∀ ty, (Builtin.append_ #[27, 27] ty #[v, .slice (some ⟨w.heap.size, 0, none⟩) 1 1]).run Try.prog (w.alloc (.cells #[.int .u64 y.1, y.2.2] 123)) = .ok v' w') ∧ Sat w' (rowK 123 2 v' (n + 1) (bcells (l ++ [y])) * Q) ∧ Kept w w' := by
  obtain ⟨i0, hi, hz0, hz1, hz2⟩ := info_parts info_blk
  have h1 := (H.alloc (.cells #[.int .u64 y.1, y.2.2] 123))
  have hc : ∀ j u, ([Value.int .u64 y.1, y.2.2] : List Value)[j]? = some u → (w.alloc (.cells #[.int .u64 y.1, y.2.2] 123)).cell? ((⟨w.heap.size, 0, none⟩ : Addr).add j) = some u := by
    intro j u hj
    match j, hj with
    | 0, hj => exact (h1.cell 0).trans hj
    | 1, hj => exact (h1.cell 1).trans hj
    | j + 2, hj => simp at hj
  obtain ⟨v', w', hr, hs, hk, _⟩ := append_core (P := Try.prog) Try.underlying27 hi hz0 hz1 rfl (by decide) (by omega) h1.swap ⟨w.heap.size, 0, none⟩ 1 1 [.int .u64 y.1, y.2.2] rfl hc (by intro u hu; simp at hu; rcases hu with rfl | rfl; exact rfl; exact hy) hb 0
  refine ⟨v', w', fun ty => hr, ?_, ((Kept.refl w).alloc _).trans hk⟩
  have e : bcells (l ++ [y]) = bcells l ++ [.int .u64 y.1, y.2.2] := by simp [bcells]
  rw [e]
  exact hs.swap.right
theorem wpListIn_append_run {F : Fence} {n : Nat} {P : Program} {w : World} {ops : Array Oper} {rest : List Oper} {o : Oper} {a : Act} {Q : Exit → Act → World → Prop} (hg : o.guard = none) (x y : Operand) (ts : Array TypeId)
    (hop : o.op = Op.call { callee := .builtin .append, args := #[x, y], argTypes := ts }) {v : Value} {w' : World} (hr : (Builtin.append_ ts o.type #[a.eval x, a.eval y]).run P w = .ok v w')
    (hK : wpListIn F n P ops Q rest (a.put o.dst v) w') : wpListIn F n P ops Q (o :: rest) a w := by
  refine wpListIn_plain hg fun K hK' => ?_
  unfold Oper.wpIn
  refine ⟨?_, ?_⟩
  · simp [Oper.about, hop, resolve, Target.leads, Sem.run_pure]
  · rw [Oper.semAt_plain F _ _ (by rw [hop]; intro c hc'; cases hc')]
    simp [execOp, hop, resolve, invoke, builtin, hr, Result.andThen]
    exact hK' _ _ hK
def keyB (b : Nat × List Nat × Value) : Nat × List Nat := (b.1, b.2.1)
/-- The rows that were handed over. -/
def rowsP : List (Nat × List Nat × Value) → Assn
  | [] => 1
  | y :: l => rowAt 25 y.2.2 (u64s y.2.1) * rowsP l
theorem rowsP_app (y : Nat × List Nat × Value) : ∀ l, rowsP (l ++ [y]) = rowAt 25 y.2.2 (u64s y.2.1) * rowsP l
  | [] => by simp [rowsP]
  | x :: l => by
    simp only [List.cons_append, rowsP, rowsP_app y l]
    ac_rfl
def bDone (p b3 b5 : Nat) (most : Int) (A : Ar) (R : Assn) (pre : List (Nat × List Nat × Value)) : Assn := Assn.ex fun v : Value =>
  own b5 (.cells #[v] 27 (0, 0)) * (own b3 (.cells #[.int .i64 most] 3 (0, 0)) * (rowK 123 2 v pre.length (bcells pre) * (rowsP pre * (arAt p A * R))))
def okY (y : Nat × List Nat × Value) : Prop := ∃ a c, y.2.2 = .slice a y.2.1.length c
def bIn (p b3 b5 : Nat) (most : Int) (A : Ar) (R : Assn) (pre : List (Nat × List Nat × Value)) : Assn := Assn.pure ((pre = [] ∨ (pre.length : Int) ≤ most) ∧ ∀ y ∈ pre, okY y) * bDone p b3 b5 most A R pre
def bStop (p b3 b5 : Nat) (most : Int) (A : Ar) (R : Assn) (c : Code) (pre : List (Nat × List Nat × Value)) : Assn :=
  Assn.pure (c = Code.exit 0 ∧ pre ≠ [] ∧ most ≤ (pre.dropLast.length : Int) ∧ (pre.dropLast = [] ∨ (pre.dropLast.length : Int) ≤ most) ∧ ∀ y ∈ pre.dropLast, okY y) * bDone p b3 b5 most A R pre.dropLast
set_option maxHeartbeats 3200000 in
set_option maxRecDepth 100000 in
theorem blocks_keep (p : Nat) (A : Ar) (most : Int) (w : World) {R : Assn} (H : Sat w (arAt p A * R)) (hl : A.s.back.length ≤ 70000) :
    Calls Try.prog 62 #[.pointer (some ⟨p, 0, none⟩), .int .i64 most] w fun e w' => Kept w w' ∧ ∃ v xs, e = .returned v ∧ xs.map keyB = (allOf A).take most.toNat ∧ (∀ y ∈ xs, okY y) ∧
      Sat w' (rowK 123 2 v xs.length (bcells xs) * (rowsP xs * (arAt p A * R))) := by
  refine (callsIn_wide (n := 12)).1 ?_
  obtain ⟨ps, pb, hi, _⟩ := arAt_open H
  have h1 : 1 ≤ 12 := by omega
  have HW : RowKit.Hid (Sat ((w.alloc (.cells #[.int .i64 most] 3)).alloc (.cells #[.slice none 0 0] 27))
      (own (w.heap.size + 1) (.cells #[.slice none 0 0] 27 (0, 0)) * (own w.heap.size (.cells #[.int .i64 most] 3 (0, 0)) * (arAt p A * R)))) := by
    have h2 := ((H.alloc (.cells #[.int .i64 most] 3)).alloc (.cells #[.slice none 0 0] 27))
    simp only [World.size_alloc] at h2
    exact h2
  have HWk : RowKit.Hid (Kept w ((w.alloc (.cells #[.int .i64 most] 3)).alloc (.cells #[.slice none 0 0] 27))) := ((Kept.refl w).alloc _).alloc _
  have hlen : (allOf A).length ≤ 60000 := by
    have := blocks_le hi
    unfold allOf
    rw [List.length_map, nums_len]
    exact this
  clear H
  refine callsIn_of_wp_marks Try.func62 rfl trivial ?_ rfl
  simp only [Try.ntmps62, List.size_toArray, List.length_cons, List.length_nil, Nat.reduceAdd, Nat.reduceSub, Array.replicate_succ, Array.replicate_zero, List.push_toArray, List.append_toArray, List.nil_append, List.cons_append]
  have hfA : Fence.wide.fn 136 := trivial
  gi_wp2_with (gi_at_call 136; refine CallsIn.mono (callsIn_wide.2 (all_calls p A _ (HW.out.cast (Q := arAt p A * (own (w.heap.size + 1) (.cells #[.slice none 0 0] 27 (0, 0)) * (own w.heap.size (.cells #[.int .i64 most] 3 (0, 0)) * R))) (by ac_rfl)) hl)) ?_; rintro e w1 ⟨x, q, bs, rfl, hp, hs1, hk1⟩)
  have Hk1 := Lib.hid (HWk.out.trans hk1)
  have hs1 : Sat w1 (bDone p w.heap.size (w.heap.size + 1) most A R [] * (own x (.cells #[.pointer (some ⟨q, 0, none⟩)] 24 (0, 0)) * cloAt q A bs)) := by
    refine Sat.mk_ex_mul (.slice none 0 0) ?_
    have h3 := hs1.cast (Q := own (w.heap.size + 1) (.cells #[.slice none 0 0] 27 (0, 0)) * (own w.heap.size (.cells #[.int .i64 most] 3 (0, 0)) * ((arAt p A * R) * (own x (.cells #[.pointer (some ⟨q, 0, none⟩)] 24 (0, 0)) * cloAt q A bs)))) (by ac_rfl)
    have h4 := rowK_nil (T := 123) (k := 2) h3
    refine h4.cast ?_
    show rowK _ 2 _ 0 [] * _ = (_ * (_ * (rowK _ 2 _ 0 [] * (1 * _)))) * _
    rw [Assn.one_mul]
    ac_rfl
  clear hk1 HWk HW
  generalize w.heap.size + 1 = b5 at *
  generalize w.heap.size = b3 at *
  refine wpIn_rangeFunc_sat rfl h1 (gf := 192) (lb := #[.pointer (some ⟨x, 0, none⟩)]) rfl trivial (enters_of Try.func192 (by kernel_rfl) rfl) (all_yields 11 (by omega) A hi bs hp x q) (fun _ => rfl) w Hk1.out
    (bIn p b3 b5 most A R) (bStop p b3 b5 most A R) (by
      unfold bIn
      rw [Assn.mul_assoc]
      exact Sat.mk_pure_mul ⟨.inl rfl, by simp⟩ hs1)
    (fun y => { tmps := #[.pointer (some ⟨p, 0, none⟩), .int .i64 most, undef, .pointer (some ⟨b3, 0, none⟩), .slice none 0 0, .pointer (some ⟨b5, 0, none⟩), .int .u64 y.1, y.2.2, .pointer (some ⟨p, 0, none⟩), .func (.func 192) #[] #[.pointer (some ⟨x, 0, none⟩)], .int .u64 y.1, y.2.2, undef, undef, undef, undef, undef, undef, undef, undef, undef, undef, undef], defers := [] }) ?assign ?body ?done ?stop
  case assign =>
    intro l y W K hK
    gi_wp2
    exact hK
  case stop =>
    intro D c pre W hpre hk hs
    unfold bStop at hs
    have ha := hs.cast (Q := Assn.pure (c = Code.exit 0 ∧ pre ≠ [] ∧ most ≤ (pre.dropLast.length : Int) ∧ (pre.dropLast = [] ∨ (pre.dropLast.length : Int) ≤ most) ∧ ∀ y ∈ pre.dropLast, okY y) * (own D (.deferred (some [])) * bDone p b3 b5 most A R pre.dropLast)) (by ac_rfl)
    clear hs
    obtain ⟨⟨hce, hne, hm1, hm2, hok⟩, hb⟩ := ha.pure_mul
    clear ha
    subst hce
    have hres : pre.dropLast.map keyB = (allOf A).take most.toNat := by
      obtain ⟨t, ht⟩ := hpre
      have hsplit := List.dropLast_concat_getLast hne
      have e1 : allOf A = pre.dropLast.map keyB ++ ([pre.getLast hne].map keyB ++ t) := by
        rw [← ht, ← List.append_assoc, ← List.map_append, hsplit]
        rfl
      have hl : most.toNat = (pre.dropLast.map keyB).length := by
        rw [List.length_map]
        rcases hm2 with e | e
        · rw [e] at hm1 ⊢
          simp at hm1 ⊢
          omega
        · omega
      rw [e1, hl, List.take_left']
      rfl
    have hd := hb.cast (Q := bDone p b3 b5 most A R pre.dropLast * own D (.deferred (some []))) (by ac_rfl)
    clear hb
    generalize pre.dropLast = xs at *
    obtain ⟨v, hf⟩ := hd.ex_mul
    clear hd
    have hs := hf.cast (Q := own D (.deferred (some [])) * (own b5 (.cells #[v] 27 (0, 0)) * (own b3 (.cells #[.int .i64 most] 3 (0, 0)) * (rowK 123 2 v xs.length (bcells xs) * (rowsP xs * (arAt p A * R)))))) (by ac_rfl)
    obtain ⟨va, vc, rfl⟩ := rowK_slice (hs.cast (Q := rowK 123 2 v xs.length (bcells xs) * (own D (.deferred (some [])) * (own b5 (.cells #[v] 27 (0, 0)) * (own b3 (.cells #[.int .i64 most] 3 (0, 0)) * (rowsP xs * (arAt p A * R)))))) (by ac_rfl))
    have hKD := hs.block
    have c5 := hs.swap.cell 0
    simp only [List.getElem?_toArray, List.getElem?_cons_zero] at c5
    have hs7 := Lib.hid ((hs.put (.deferred none)).right.right.right)
    have hk7 := (hk.put D (.deferred none))
    clear hs
    gi_wp2
    refine ⟨by simp, .inl ⟨_, _, rfl, run_takeDeferred hKD, ?_⟩⟩
    exact ⟨_, results_tmp (t := 4) rfl _ _ _, hk7, _, xs, rfl, hres, hok, hs7.out⟩
  case body =>
    intro l pre y Rf W hpre hk hs
    unfold bIn at hs
    rw [Assn.mul_assoc] at hs
    obtain ⟨⟨hm, hok⟩, hs⟩ := hs.pure_mul
    obtain ⟨v, hs⟩ := hs.ex_mul
    obtain ⟨yh, yw, yv⟩ := y
    have hs := hs.cast (Q := rowK 123 2 v pre.length (bcells pre) * (own b5 (.cells #[v] 27 (0, 0)) * (own b3 (.cells #[.int .i64 most] 3 (0, 0)) * (rowAt 25 yv (u64s yw) * (rowsP pre * (arAt p A * (R * Rf))))))) (by simp only []; ac_rfl)
    obtain ⟨va, vc, rfl⟩ := rowK_slice hs
    obtain ⟨ya, yc, rfl⟩ := rowAt_len (m := yw.length) (hs.cast (Q := rowAt 25 yv (u64s yw) * (rowK 123 2 (.slice va pre.length vc) pre.length (bcells pre) * (own b5 (.cells #[.slice va pre.length vc] 27 (0, 0)) * (own b3 (.cells #[.int .i64 most] 3 (0, 0)) * (rowsP pre * (arAt p A * (R * Rf))))))) (by ac_rfl)) (by simp [u64s])
    generalize hyn : yw.length = yn at *
    have hokY : ∀ y ∈ pre ++ [(yh, yw, Value.slice ya yn yc)], okY y := by
      intro y hy
      rcases List.mem_append.1 hy with h | h
      · exact hok y h
      · simp only [List.mem_singleton] at h
        subst h
        exact ⟨ya, yc, by rw [hyn]⟩
    have c5 := hs.swap.cell 0
    have c3 := (hs.cast (Q := own b3 (.cells #[.int .i64 most] 3 (0, 0)) * (rowK 123 2 (.slice va pre.length vc) pre.length (bcells pre) * (own b5 (.cells #[.slice va pre.length vc] 27 (0, 0)) * (rowAt 25 (.slice ya yn yc) (u64s yw) * (rowsP pre * (arAt p A * (R * Rf))))))) (by ac_rfl)).cell 0
    simp only [List.getElem?_toArray, List.getElem?_cons_zero] at c5 c3
    have hplen : pre.length + 1 ≤ 60000 := by
      have h2 := hpre.length_le
      simp at h2
      omega
    by_cases hlt : (pre.length : Int) < most
    · have hd : decide (most ≤ (pre.length : Int)) = false := by simp; omega
      obtain ⟨v', w', hr, hs2, hk2⟩ := blk_app (y := (yh, yw, .slice ya yn yc)) rfl hs rfl (by omega)
      obtain ⟨va', vc', rfl⟩ := rowK_slice hs2
      have c5' := hs2.swap.cell 0
      have z5' := hs2.swap.free 0
      simp only [List.getElem?_toArray, List.getElem?_cons_zero] at c5'
      have hs3 := hs2.swap.set 0 (.slice va' (pre.length + 1) vc')
      have hk3 := (hk.trans hk2).setCell ⟨b5, 0, none⟩ (.slice va' (pre.length + 1) vc')
      have hfin : RowKit.Hid (Sat (w'.setCell ⟨b5, 0, none⟩ (.slice va' (pre.length + 1) vc')) (bIn p b3 b5 most A R (pre ++ [(yh, yw, .slice ya yn yc)]) * Rf)) := by
        show Sat _ _
        unfold bIn
        rw [Assn.mul_assoc]
        refine Sat.mk_pure_mul ⟨.inr (by simp; omega), hokY⟩ (Sat.mk_ex_mul (.slice va' (pre.length + 1) vc') ?_)
        have hs4 := hs3.cast (Q := rowAt 25 (.slice ya yn yc) (u64s yw) * (own b5 (.cells #[.slice va' (pre.length + 1) vc'] 27 (0, 0)) * (own b3 (.cells #[.int .i64 most] 3 (0, 0)) * (rowK 123 2 (.slice va' (pre.length + 1) vc') (pre.length + 1) (bcells (pre ++ [(yh, yw, .slice ya yn yc)])) * (rowsP pre * (arAt p A * (R * Rf))))))) (by
          show own b5 (.cells (#[Value.slice va pre.length vc].setIfInBounds 0 _) _ _) * _ = _
          simp only [List.setIfInBounds_toArray, List.set_cons_zero]
          ac_rfl)
        refine hs4.cast ?_
        rw [rowsP_app]
        simp only [List.length_append, List.length_cons, List.length_nil]
        ac_rfl
      clear hs hs2 hs3
      gi_wp2_with (gi_at_builtin; refine wpListIn_append_run rfl (.tmp 16) (.tmp 20) #[27, 27] rfl (hr _) ?_)
      exact ⟨hk3, hfin.out⟩
    · have hd : decide (most ≤ (pre.length : Int)) = true := by simp; omega
      have hfin : RowKit.Hid (Sat W (bStop p b3 b5 most A R (Code.exit 0) (pre ++ [(yh, yw, Value.slice ya yn yc)]) * Rf)) := by
        show Sat _ _
        unfold bStop
        rw [Assn.mul_assoc]
        rw [List.dropLast_concat]
        refine Sat.mk_pure_mul ⟨rfl, by simp, by omega, hm, hok⟩ (Sat.mk_ex_mul (.slice va pre.length vc) ?_)
        have hs4 := hs.cast (Q := rowAt 25 (.slice ya yn yc) (u64s yw) * (own b5 (.cells #[.slice va pre.length vc] 27 (0, 0)) * (own b3 (.cells #[.int .i64 most] 3 (0, 0)) * (rowK 123 2 (.slice va pre.length vc) pre.length (bcells pre) * (rowsP pre * (arAt p A * (R * Rf))))))) (by ac_rfl)
        refine hs4.right.cast ?_
        ac_rfl
      clear hs
      gi_wp2
      exact ⟨hk, hfin.out⟩
  case done =>
    intro D xs W hxs hk hs
    unfold bIn at hs
    have hs := hs.cast (Q := Assn.pure ((xs = [] ∨ (xs.length : Int) ≤ most) ∧ ∀ y ∈ xs, okY y) * (own D (.deferred (some [])) * bDone p b3 b5 most A R xs)) (by ac_rfl)
    obtain ⟨⟨hm, hok⟩, hs⟩ := hs.pure_mul
    have hres : xs.map keyB = (allOf A).take most.toNat := by
      have hxs : xs.map keyB = allOf A := hxs
      rw [hxs, List.take_of_length_le]
      rw [← hxs, List.length_map]
      rcases hm with rfl | h
      · simp
      · omega
    have hs := hs.cast (Q := bDone p b3 b5 most A R xs * own D (.deferred (some []))) (by ac_rfl)
    obtain ⟨v, hs⟩ := hs.ex_mul
    have hs := hs.cast (Q := own D (.deferred (some [])) * (own b5 (.cells #[v] 27 (0, 0)) * (own b3 (.cells #[.int .i64 most] 3 (0, 0)) * (rowK 123 2 v xs.length (bcells xs) * (rowsP xs * (arAt p A * R)))))) (by ac_rfl)
    obtain ⟨va, vc, rfl⟩ := rowK_slice (hs.cast (Q := rowK 123 2 v xs.length (bcells xs) * (own D (.deferred (some [])) * (own b5 (.cells #[v] 27 (0, 0)) * (own b3 (.cells #[.int .i64 most] 3 (0, 0)) * (rowsP xs * (arAt p A * R)))))) (by ac_rfl))
    have hKD := hs.block
    have c5 := hs.swap.cell 0
    simp only [List.getElem?_toArray, List.getElem?_cons_zero] at c5
    have hs7 := Lib.hid ((hs.put (.deferred none)).right.right.right)
    have hk7 := (hk.put D (.deferred none))
    clear hs
    gi_wp2
    refine ⟨by simp, .inl ⟨_, _, rfl, run_takeDeferred hKD, ?_⟩⟩
    exact ⟨_, results_tmp (t := 4) rfl _ _ _, hk7, _, xs, rfl, hres, hok, hs7.out⟩
theorem blocks_calls (p : Nat) (A : Ar) (most : Int) (w : World) {R : Assn} (H : Sat w (arAt p A * R)) (hl : A.s.back.length ≤ 70000) :
    Calls Try.prog 62 #[.pointer (some ⟨p, 0, none⟩), .int .i64 most] w fun e w' => Kept w w' ∧ ∃ v xs, e = .returned v ∧ xs.map keyB = (allOf A).take most.toNat ∧ (∀ y ∈ xs, okY y) ∧
      Sat w' (rowK 123 2 v xs.length (bcells xs) * (arAt p A * R)) :=
  (blocks_keep p A most w H hl).mono fun _ _ ⟨hk, v, xs, he, hm, ho, hs⟩ => ⟨hk, v, xs, he, hm, ho, (hs.cast (Q := rowsP xs * (rowK 123 2 v xs.length (bcells xs) * (arAt p A * R))) (by ac_rfl)).right⟩
end Go.Proofs.Ytnfpkadepomjjaa
