/- Contracts of packages least and arena (layers 2 and 3): makers, the words of an address. -/
import Derived.Test.YtnfpkadepomjjaaProg
import Derived.WalkKit
import Derived.WalkSpells
import Derived.WalkLawsBesides
import Derived.BigQuiet
import Derived.Deep.Light
import Derived.Lib.Hide
import Derived.Test.YtnfpkadepomjjaaBaseArM
import Derived.Test.YtnfpkadepomjjaaFieldsA
import Derived.Test.YtnfpkadepomjjaaSem
set_option linter.all false
namespace Go.Proofs.Ytnfpkadepomjjaa
open Go.RowKit

theorem info_u64 : (Try.prog.info? 25).map (fun i => (i.zero, i.size, i.bytes)) = some (some (.int .u64 0), 1, 8) := by kernel_rfl

theorem leastNew (w : World) {R : Assn} (h : Sat w R) :
    Calls Try.prog 119 #[.int .i64 65535] w fun e w' => ∃ ps, e = .returned (.tuple #[.pointer (some ⟨ps, 0, none⟩), .int .i64 0]) ∧ Sat w' (stkAt ps { high := 0, used := [], back := [] } * R) ∧ Kept w w' := by
  have hmm := @run_makeMap Try.prog
  go_enter Try.func119, Try.ntmps119
  go_wp2
  go_ret2
  refine ⟨_, rfl, ?_, ((Kept.refl w).alloc _).alloc _⟩
  refine Sat.mk_ex_mul (w.heap.size, .slice none 0 0) ?_
  have h1 := (h.alloc (.map #[] 0)).alloc (.cells #[.int .i64 65535, .int .i64 0, .slice none 0 0, .map (some w.heap.size)] 296)
  have h2 := mapAt_shut (b := w.heap.size) (l := []) mapL_nil h1.swap
  have h3 := rowAt_nil (T := 3) h2
  refine h3.cast ?_
  simp [intv]
  ac_rfl

theorem arenaNew (cap : Nat) (w : World) {R : Assn} (h : Sat w R) (hc : cap ≤ 60000) :
    Calls Try.prog 41 #[.int .i64 cap] w fun e w' => ∃ p, e = .returned (.tuple #[.pointer (some ⟨p, 0, none⟩), .int .i64 0]) ∧ Sat w' (arAt p (Ar.new cap) * R) ∧ Kept w w' := by
  have hmm := @run_makeMap Try.prog
  go_enter Try.func41, Try.ntmps41
  go_wp2_with fail
  refine (leastNew _ h).mono ?_; rintro e w1 ⟨ps, rfl, hs, hk⟩
  go_wp2
  go_ret2
  refine ⟨_, rfl, ?_, (hk.alloc _).alloc _⟩
  have h1 := ((hs.alloc (.map #[] 0)).alloc (.cells (arCells (Ar.new cap) ps w1.heap.size) 173))
  have h2 := mapAt_shut (b := w1.heap.size) (l := []) mapL_nil h1.swap
  refine arAt_shut (ps := ps) (pb := w1.heap.size) (ArInv.new hc) ?_
  refine Sat.cast (P := mapAt w1.heap.size [] * (own (w1.alloc (.map #[] 0)).heap.size (.cells (arCells (Ar.new cap) ps w1.heap.size) 173) * (stkAt ps { high := 0, used := [], back := [] } * R))) h2 ?_
  rw [show (w1.alloc (.map #[] 0)).heap.size = w1.heap.size + 1 by simp]
  show _ = own _ _ * (stkAt ps { high := 0, used := [], back := [] } * (mapAt w1.heap.size [] * (1 * R)))
  rw [Assn.one_mul]
  ac_rfl

theorem add_spot (a : Addr) (n : Nat) : (a.add n).block = a.block := by unfold Addr.add; split <;> rfl
theorem cell_alloc_past' (w : World) (o : Obj) (x : Addr) (h : x.block < w.heap.size) : (w.alloc o).cell? x = w.cell? x := by
  unfold World.cell?
  rw [Below.heap_alloc _ _ _ h]

/-- An answer that is new memory: a copy of a list of words that is not empty. -/
theorem clone_any (g : Addr) (cap : Nat) (l : List Nat) (m : Nat) (w : World) {P : Assn} (h : Sat w P) (hm : l.length = m) (hcells : ∀ j u, (u64s l)[j]? = some u → w.cell? (g.add j) = some u) (hl : 1 ≤ m) (hl2 : m ≤ 2048) (hg : g.block < w.heap.size) :
    Calls Try.prog 109 #[.slice (some g) m cap] w fun e w' => ∃ v', e = .returned v' ∧ Sat w' (rowAt 25 v' (u64s l) * P) ∧ Below w.heap.size w w' := by
  obtain ⟨i0, hi, hz0, hz1, hz2⟩ := info_parts info_u64
  have hlen : (u64s l).length = m := by simp [u64s, hm]
  have hne := fun (w : World) => Lib.run_eql_slice_nil (P := Try.prog) w 32 25 (some g) m cap 0 0 Try.underlying32
  have Hc := Lib.hid hcells
  have Hlen := Lib.hid hlen
  clear hcells hlen
  go_enter Try.func109, Try.ntmps109
  go_wp2_with (at_builtin; refine wpList_append_own _ rfl _ _ 32 rfl w.heap.size 25 i0 (.int .u64 0) 1 8 Try.underlying32 hi hz0 hz1 hz2 rfl (by decide) _ 0 [] rfl (World.ownsRow_lit w #[] 0 (Nat.le_refl _) (by unfold maxLen; omega) rfl) g m cap (u64s l) rfl (by rw [Hlen.out]; simp) ?c1 ?c2 ?c3 ?c4 ?c5 ?_)
  case c1 =>
    intro j u hj
    have e := add_spot g j
    rw [cell_alloc_past' _ _ _ (by rw [e]; exact hg)]; exact Hc.out j u hj
  case c2 => intro u hu; simp [u64s] at hu; obtain ⟨_, _, rfl⟩ := hu; rfl
  case c3 => unfold maxLen; omega
  case c4 => omega
  case c5 => simp
  intro v' w1 hown' hgrow _
  have hb1 : Below w.heap.size w w1 := (((Below.refl _ _).alloc (Nat.le_refl _) (.cells #[] 25)).grown hgrow (by simp) (fun k hk => by cases hk; exact Nat.le_refl _))
  go_wp2
  go_ret
  refine ⟨_, rfl, ?_, hb1⟩
  have := rowAt_made h hb1 hown'
  exact this

/-- An answer that is new memory: a copy of a list of words that is not empty. -/
theorem clone_u64 (v : Value) (l : List Nat) (w : World) {R : Assn} (h : Sat w (rowAt 25 v (u64s l) * R)) (hl : 1 ≤ l.length) (hl2 : l.length ≤ 2048) :
    Calls Try.prog 109 #[v] w fun e w' => ∃ v', e = .returned v' ∧ Sat w' (rowAt 25 v' (u64s l) * (rowAt 25 v (u64s l) * R)) ∧ Below w.heap.size w w' := by
  obtain ⟨i0, hi, hz0, hz1, hz2⟩ := info_parts info_u64
  have hrow := rowAt_open h
  rcases hrow with ⟨_, h2, _⟩ | ⟨g, cap, cur, rfl, h2, h3, h4, h5, h6⟩
  · simp [u64s] at h2; subst h2; simp at hl
  · have hlen : (u64s l).length = l.length := by simp [u64s]
    have hcells := row_cell h6 h5
    have hg := h6.lt
    have hne := fun (w : World) => Lib.run_eql_slice_nil (P := Try.prog) w 32 25 (some ⟨g, 0, none⟩) (u64s l).length cap 0 0 Try.underlying32
    have Hc := Lib.hid hcells
    have Hlen := Lib.hid hlen
    have H3 := Lib.hid h3
    clear h5 h6 hcells h3 h4 hlen
    generalize (u64s l).length = m at *
    go_enter Try.func109, Try.ntmps109
    go_wp2_with (at_builtin; refine wpList_append_own _ rfl _ _ 32 rfl w.heap.size 25 i0 (.int .u64 0) 1 8 Try.underlying32 hi hz0 hz1 hz2 rfl (by decide) _ 0 [] rfl (World.ownsRow_lit w #[] 0 (Nat.le_refl _) (by unfold maxLen; omega) rfl) ⟨g, 0, none⟩ m cap (u64s l) rfl (by rw [Hlen.out]; simp [u64s]) ?c1 ?c2 ?c3 ?c4 ?c5 ?_)
    case c1 =>
      intro j u hj
      have e : ((⟨g, 0, none⟩ : Addr).add j) = ⟨g, j, none⟩ := by (by_cases h0 : j = 0) <;> simp [Addr.add, h0]
      rw [e, World.cell?_alloc_past _ _ _ hg]; exact Hc.out j u hj
    case c2 => intro u hu; simp [u64s] at hu; obtain ⟨_, _, rfl⟩ := hu; rfl
    case c3 => have := Hlen.out; unfold maxLen; omega
    case c4 => have := Hlen.out; omega
    case c5 => simp
    intro v' w1 hown' hgrow _
    have hb1 : Below w.heap.size w w1 := (((Below.refl _ _).alloc (Nat.le_refl _) (.cells #[] 25)).grown hgrow (by simp) (fun k hk => by cases hk; exact Nat.le_refl _))
    go_wp2
    go_ret
    exact ⟨_, rfl, rowAt_made h hb1 hown', hb1⟩
end Go.Proofs.Ytnfpkadepomjjaa
