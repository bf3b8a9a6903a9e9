/- A walk through a tree: its nodes, its leaves. -/
import Derived.Laws.ResultCell
import Derived.RangeFuncRecord
import Derived.Test.YtnfpkadepomjjaaQuadM
import Derived.Test.YtnfpkadepomjjaaBaseB
set_option linter.all false
namespace Go.Proofs.Ytnfpkadepomjjaa
open Go.RowKit

theorem results_row_tmp {P : Program} {fn : Func} {p u : Tmp} {ty : TypeId} (h : fn.results = #[.cell p ty, .tmp u]) (tmps : Array Value) (w : World) (g : Nat) (t : TypeId) (cs : Array Value) (fr : Nat × Nat) (d : TypeDesc)
    (hp : tmps.getD p undef = .pointer (some ⟨g, 0, none⟩)) (hg : w.heap[g]? = some (.cells cs t fr))
    (hu : P.underlying ty = some d) (hd : (match d with | .struct _ | .array _ _ => true | _ => false) = true) (hi : (P.info? ty).map (·.size) = some cs.size) :
    (results fn tmps).run P w = .ok (.tuple #[.agg cs, tmps.getD u undef]) w := by
  have hp' : tmps[p]?.getD undef = .pointer (some ⟨g, 0, none⟩) := by simpa using hp
  simp [results, h, hp', asAddr, run_loadVar_row w g t ty cs fr d hg hu hd hi]
theorem run_arrayAt {P : Program} (w : World) (t e : TypeId) (n : Nat) (a : Addr) (c : Nat) (ht : P.underlying t = some (.array n e)) : (Instr.arrayAt t (.slice (some a) n c)).run P w = .ok (.pointer (some a)) w := by
  simp [Instr.arrayAt, run_underlying ht]
theorem zero_sli : ∀ w, (zeroValue 32).run Try.prog w = .ok (.slice none 0 0) w := fun w => by kernel_rfl
theorem nodeF_ok {ks : List (Nat × List Nat)} {h : Nat} {a b c d : Nat} (hf : ks.find? (fun b => b.1 == h) = some (h, [a, b, c, d])) : nodeF ks h = ((a, b, c, d), !(a == 0 && b == 0 && c == 0 && d == 0)) := by
  unfold nodeF; rw [hf]
theorem nodeF_no {ks : List (Nat × List Nat)} {h : Nat} (hf : ∀ l, ks.find? (fun b => b.1 == h) = some l → l.2.length ≠ 4) : nodeF ks h = ((0, 0, 0, 0), false) := by
  unfold nodeF
  split
  · rename_i e
    exact absurd rfl (hf _ e)
  · rfl

set_option maxHeartbeats 1600000 in
set_option maxRecDepth 100000 in
theorem node_calls (pw m : Nat) (vp vh : Value) (xs : Wds) (h : Nat) (w : World) {R : Assn} (H : Sat w (own pw (.cells #[.map (some m), vp, vh] 220 (0, 0)) * (wordsAt m xs * R))) :
    Calls Try.prog 213 #[.pointer (some ⟨pw, 0, none⟩), .int .u64 h] w fun e w' => e = .returned (.tuple #[.agg (cells4 (nodeF (xs.map keyW) h).1), .bool (nodeF (xs.map keyW) h).2]) ∧ Below w.heap.size w w' := by
  have c0 := H.cell 0
  simp at c0
  have hlt := H.lt
  have H2 : Sat w (mapUAt m (xs.map went) * (wrows xs * (own pw (.cells #[.map (some m), vp, vh] 220 (0, 0)) * R))) := H.cast (by unfold wordsAt; ac_rfl)
  obtain ⟨es, clock, hl, h5⟩ := mapUAt_open H2
  have hlk := fun (o : Obj) => lookup_ok_u (P := Try.prog) (w := w.alloc o) (h5.alloc o).swap.block hl Try.underlying218 Try.underlying25 (zero_sli _) (h : Int)
  rw [look_went] at hlk
  cases hf : xs.find? (fun b => b.1 == h) with
  | none =>
    have hn : nodeF (xs.map keyW) h = ((0, 0, 0, 0), false) := nodeF_no fun l hl => by rw [find_keyW, hf] at hl; cases hl
    rw [hf] at hlk
    have hrun := hlk (.cells #[.int .u64 0, .int .u64 0, .int .u64 0, .int .u64 0] 62)
    simp only [Option.map_none, Option.getD_none, Option.isSome_none] at hrun
    rw [hn]
    clear H H2 hl h5 hlk
    go_enter Try.func213, Try.ntmps213
    go_wp2
    refine bodyPost_ret (results_row_tmp rfl _ _ w.heap.size _ _ _ _ rfl (World.alloc_heap_new w _) Try.underlying62 rfl (by kernel_rfl)) rfl ?_
    exact ⟨rfl, (Below.refl _ w).alloc (Nat.le_refl _) _⟩
  | some l =>
    obtain ⟨h', ws, v⟩ := l
    have hh : h' = h := by have := List.find?_some hf; simpa using this
    subst hh
    rw [hf] at hlk
    obtain ⟨l1, l2, hx⟩ := List.append_of_mem (List.mem_of_find?_eq_some hf)
    have hw := wrows_mid l1 l2 (h', ws, v)
    rw [← hx] at hw
    have H3 : Sat w (rowAt 25 v (u64s ws) * (wrows (l1 ++ l2) * (own m (.map es clock) * (own pw (.cells #[.map (some m), vp, vh] 220 (0, 0)) * R)))) := h5.cast (by rw [hw]; ac_rfl)
    have hrun := hlk (.cells #[.int .u64 0, .int .u64 0, .int .u64 0, .int .u64 0] 62)
    simp only [Option.map_some, Option.getD_some, Option.isSome_some] at hrun
    have hfk : (xs.map keyW).find? (fun b => b.1 == h') = some (h', ws) := by rw [find_keyW, hf]; rfl
    obtain ⟨va, vc, rfl⟩ := rowAt_len H3 (m := ws.length) (by simp [u64s])
    by_cases h4 : ws.length = 4
    · match ws, h4 with
      | [a, b, c, d], _ =>
        have hn := nodeF_ok hfk
        rcases rowAt_open H3 with ⟨_, h0, _⟩ | ⟨g, cap, cur, e, k2, k3, k4, k5, k6⟩
        · simp [u64s] at h0
        · cases e
          have H6 := Lib.hid k6
          have hrow := row_cell (k6.alloc (.cells #[.int .u64 0, .int .u64 0, .int .u64 0, .int .u64 0] 62)).swap k5
          have hrg : (w.alloc (.cells #[.int .u64 0, .int .u64 0, .int .u64 0, .int .u64 0] 62)).rangeAt g 0 [.int .u64 a, .int .u64 b, .int .u64 c, .int .u64 d] := fun j v hv => by
            rw [Nat.zero_add]; exact hrow j v hv
          rw [hn]
          clear H H2 H3 hl h5 hlk k6 hrow k5
          go_enter Try.func213, Try.ntmps213
          have hat := fun w => run_arrayAt (P := Try.prog) w 62 _ 4 ⟨g, 0, none⟩ vc Try.underlying62
          go_wp2_with (refine wpList_load_mid rfl 62 (.tmp 27) rfl g 0 rfl [.int .u64 a, .int .u64 b, .int .u64 c, .int .u64 d] _ hrg Try.underlying62 rfl (by kernel_rfl) ?_)
          have heq : ∀ w, (Op.equalIn 10000 62 (.agg #[.int .u64 a, .int .u64 b, .int .u64 c, .int .u64 d]) (.agg #[.int .u64 0, .int .u64 0, .int .u64 0, .int .u64 0])).run Try.prog w = .ok ((a : Int) == 0 && (b : Int) == 0 && (c : Int) == 0 && (d : Int) == 0) w := fun w =>
            run_equalIn_arr4 (P := Try.prog) w 9999 62 25 .u64 _ _ _ _ _ _ _ _ Try.underlying62 (fun a b w => run_equalIn_int w 9998 25 .u64 .u64 a b Try.underlying25) (fun w => by kernel_rfl) (fun w => by kernel_rfl)
          have H7 := (H6.out.alloc (.cells #[.int .u64 0, .int .u64 0, .int .u64 0, .int .u64 0] 62)).alloc (.cells #[.int .u64 a, .int .u64 b, .int .u64 c, .int .u64 d] 62)
          have hb7 : Below w.heap.size w ((w.alloc (.cells #[.int .u64 0, .int .u64 0, .int .u64 0, .int .u64 0] 62)).alloc (.cells #[.int .u64 a, .int .u64 b, .int .u64 c, .int .u64 d] 62)) := ((Below.refl _ w).alloc (Nat.le_refl _) _).alloc (by simp) _
          clear hrg
          rw [World.size_alloc] at H7
          generalize World.alloc (World.alloc w _) _ = w2 at *
          have y0 := H7.cell 0
          have y1 := H7.cell 1
          have y2 := H7.cell 2
          have y3 := H7.cell 3
          have z0 := H7.swap.cell 0
          have z1 := H7.swap.cell 1
          have z2 := H7.swap.cell 2
          have z3 := H7.swap.cell 3
          have f0 := H7.swap.free 0
          have f1 := H7.swap.free 1
          have f2 := H7.swap.free 2
          have f3 := H7.swap.free 3
          simp at y0 y1 y2 y3 z0 z1 z2 z3
          have hne := H7.ne
          have hne' := H7.swap.ne
          have H7 := Lib.hid H7
          go_region_held3 (fun w' => w'.cell? ⟨w.heap.size + 1, 0, none⟩ = some (.int .u64 a) ∧ w'.cell? ⟨w.heap.size + 1, 1, none⟩ = some (.int .u64 b) ∧ w'.cell? ⟨w.heap.size + 1, 2, none⟩ = some (.int .u64 c) ∧ w'.cell? ⟨w.heap.size + 1, 3, none⟩ = some (.int .u64 d)) (go_keep) (fail)
          have H8 := ((((H7.out.swap.set 0 (.int .u64 a)).set 1 (.int .u64 b)).set 2 (.int .u64 c)).set 3 (.int .u64 d)).drew
          have hb8 : Below w.heap.size w (((((w2.setCell ⟨w.heap.size, 0, none⟩ (.int .u64 a)).setCell ⟨w.heap.size, 1, none⟩ (.int .u64 b)).setCell ⟨w.heap.size, 2, none⟩ (.int .u64 c)).setCell ⟨w.heap.size, 3, none⟩ (.int .u64 d)).drew) :=
            ((((hb7.setCell (p := ⟨w.heap.size, 0, none⟩) (Nat.le_refl _) _).setCell (p := ⟨w.heap.size, 1, none⟩) (Nat.le_refl _) _).setCell (p := ⟨w.heap.size, 2, none⟩) (Nat.le_refl _) _).setCell (p := ⟨w.heap.size, 3, none⟩) (Nat.le_refl _) _).drew
          simp at H8
          have hk8 := H8.block
          have e : (!((a : Int) == 0) || !((b : Int) == 0) || !((c : Int) == 0) || !((d : Int) == 0)) = !(a == 0 && b == 0 && c == 0 && d == 0) := by
            rw [Bool.eq_iff_iff]
            simp only [Bool.or_eq_true, Bool.not_eq_true', beq_eq_false_iff_ne, ne_eq, Bool.and_eq_false_iff]
            omega
          generalize World.drew _ = w8 at *
          go_wp2
          refine bodyPost_ret (results_row_tmp rfl _ _ w.heap.size _ _ _ _ rfl hk8 Try.underlying62 rfl (by kernel_rfl)) rfl ?_
          refine ⟨?_, hb8⟩
          show Ending.returned (.tuple #[.agg #[.int .u64 a, .int .u64 b, .int .u64 c, .int .u64 d], .bool (!((a : Int) == 0) || !((b : Int) == 0) || !((c : Int) == 0) || !((d : Int) == 0))]) = _
          rw [e]
          rfl
    · have hn : nodeF (xs.map keyW) h' = ((0, 0, 0, 0), false) := nodeF_no fun l hl => by rw [hfk] at hl; cases hl; exact h4
      rw [hn]
      have hne : ((ws.length : Int) == 4) = false := by simpa using fun h => h4 (by omega)
      clear H H2 H3 hl h5 hlk
      go_enter Try.func213, Try.ntmps213
      go_wp2
      refine bodyPost_ret (results_row_tmp rfl _ _ w.heap.size _ _ _ _ rfl (World.alloc_heap_new w _) Try.underlying62 rfl (by kernel_rfl)) rfl ?_
      exact ⟨rfl, (Below.refl _ w).alloc (Nat.le_refl _) _⟩
end Go.Proofs.Ytnfpkadepomjjaa
