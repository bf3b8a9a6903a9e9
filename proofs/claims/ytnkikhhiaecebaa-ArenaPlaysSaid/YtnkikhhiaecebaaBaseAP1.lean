/- Short names for what printed states are full of. No program in sight. -/
import Derived.Test.YtnkikhhiaecebaaBaseB
import Derived.Test.YtnkikhhiaecebaaProg
import Derived.WalkKit
import Derived.WalkSpells
import Derived.WalkLawsBesides
import Derived.Lib.Hide
import Derived.Test.YtnkikhhiaecebaaBasePl
import Derived.BigQuiet
import Derived.Deep.Light
import Derived.Test.YtnkikhhiaecebaaBaseArM
import Derived.Test.YtnkikhhiaecebaaBaseAP2
import Derived.StillTailTactics
import Derived.Deep.RegionWith
import Derived.Laws.EntriesVeiled
import Derived.Below
import Derived.WalkSmall
import Derived.Laws.AppendOwn
import Derived.Laws.OwnMore
import Derived.Shelf.SlMaps.Clone
import Derived.Shelf.SlIterI.Sorted
import Derived.Shelf.SortM.Plain
import Derived.Shelf.SortM.SortNone
import Derived.Test.YtnkikhhiaecebaaBaseMap
import Derived.Deep.RegionHeld3
set_option linter.all false
namespace Go.Proofs.Ytnkikhhiaecebaa
open Go Go.RowKit
abbrev tn : ST := .nil
abbrev nu (l r : ST) : ST := .node (.tup []) l r
abbrev nu0 : ST := .node (.tup []) .nil .nil
abbrev nr (ρ : Nat → Value) (k : Nat) (l r : ST) : ST := .node (.c (.raw (ρ k))) l r
abbrev np (n o : Nat) (l r : ST) : ST := .node (.c (.ptr n o)) l r
abbrev nv (v : SV) (l r : ST) : ST := .node v l r
abbrev si (k : IntKind) (n : Int) : SC := .int false k n .any
abbrev ti (k : IntKind) (n : Int) : SC := .int true k n .any
abbrev tb (b : Bool) : SC := .boo true b
abbrev fb (b : Bool) : SC := .boo false b
abbrev sp (n o : Nat) : SC := .ptr n o
abbrev rl (ρ : Nat → Value) (k : Nat) : ST := .node (.c (.raw (ρ k))) .nil .nil
abbrev rt (ρ : Nat → Value) (n a b : Nat) : ST := ST.build (fun t => .c (.raw (ρ t))) n 12 a b
def bk (lo hi n : Int) : Bd n := if h : lo ≤ n ∧ n ≤ hi then .w lo hi h else .any
end Go.Proofs.Ytnkikhhiaecebaa

/- Contracts of package fields (layer 1), leaves first: each call computes the plain function and leaves the world alone. -/
namespace Go.Proofs.Ytnkikhhiaecebaa
open Go.RowKit

theorem between_any (n a b : Nat) (w : World) :
    Calls Try.prog 159 #[.int .u64 n, .int .u64 a, .int .u64 b] w fun e w' => e = .returned (.bool (decide (a ≤ n) && decide (n ≤ b))) ∧ w = w' := by
  go_enter Try.func159, Try.ntmps159
  go_wp2
  all_goals (go_ret; refine ⟨?_, rfl⟩; congr 2; simp; try omega)

theorem low_any (n k : Nat) (w : World) (hn : n < TW) (h1 : k ≤ 32) :
    Calls Try.prog 160 #[.int .u64 n, .int .i64 k] w fun e w' => e = .returned (.int .u64 (n % 2 ^ k : Nat)) ∧ w = w' := by
  have hl := and_low n k hn (by omega)
  go_enter Try.func160, Try.ntmps160
  go_wp2
  go_ret
  exact ⟨by simp at hl ⊢, rfl⟩

theorem block_any (h : Nat) (w : World) (hh : h < TW) :
    Calls Try.prog 95 #[.int .u64 h] w fun e w' => e = .returned (.int .u64 (h % 65536 : Nat)) ∧ w = w' := by
  go_enter Try.func95, Try.ntmps95
  go_wp2_with fail
  refine (low_any h 16 _ hh (by omega)).mono ?_; rintro e w' ⟨rfl, rfl⟩
  go_wp2
  go_ret
  exact ⟨by simp, rfl⟩

theorem handle_any (a b : Nat) (w : World) :
    Calls Try.prog 90 #[.int .u64 a, .int .u64 b] w fun e w' => e = .returned (.tuple #[.int .u64 (handleF a b).1, .bool (handleF a b).2]) ∧ w = w' := by
  by_cases h1 : 1 ≤ a ∧ a ≤ 268435455
  · by_cases h2 : 1 ≤ b ∧ b ≤ 65535
    · have Hf := Lib.hid (show handleF a b = (a * 65536 + b, true) from if_pos ⟨h1, h2⟩)
      have Ho := Lib.hid (or16 a b h1.2 h2.2)
      obtain ⟨ha1, ha2⟩ := h1
      obtain ⟨hb1, hb2⟩ := h2
      go_enter Try.func90, Try.ntmps90
      go_wp2_with fail
      refine (between_any a 1 268435455 _).mono ?_; rintro e w' ⟨rfl, rfl⟩
      go_wp2_with fail
      refine (between_any b 1 65535 _).mono ?_; rintro e w' ⟨rfl, rfl⟩
      go_wp2
      go_ret2
      exact ⟨by rw [Hf.out]; simp [Ho.out], rfl⟩
    · have Hf := Lib.hid (show handleF a b = (0, false) from if_neg (fun h => h2 h.2))
      have hb : (decide (1 ≤ b) && decide (b ≤ 65535)) = false := by simp; omega
      have ha : (decide (1 ≤ a) && decide (a ≤ 268435455)) = true := by simp; omega
      go_enter Try.func90, Try.ntmps90
      go_wp2_with fail
      refine (between_any a 1 268435455 _).mono ?_; rintro e w' ⟨rfl, rfl⟩
      rw [ha]
      go_wp2_with fail
      refine (between_any b 1 65535 _).mono ?_; rintro e w' ⟨rfl, rfl⟩
      rw [hb]
      go_wp2
      go_ret2
      exact ⟨by rw [Hf.out]; simp, rfl⟩
  · have Hf := Lib.hid (show handleF a b = (0, false) from if_neg (fun h => h1 h.1))
    have ha : (decide (1 ≤ a) && decide (a ≤ 268435455)) = false := by simp; omega
    go_enter Try.func90, Try.ntmps90
    go_wp2_with fail
    refine (between_any a 1 268435455 _).mono ?_; rintro e w' ⟨rfl, rfl⟩
    rw [ha]
    go_wp2
    go_ret2
    exact ⟨by rw [Hf.out]; simp, rfl⟩

end Go.Proofs.Ytnkikhhiaecebaa
/- The statements of layer 1: the document's functions compute the same plain functions; the calls of 'first' answer true. -/
namespace Go.Proofs.Ytnkikhhiaecebaa
open Go.RowKit

theorem ref_handle_any (a b : Nat) (w : World) :
    Calls Try.prog 103 #[.int .u64 a, .int .u64 b] w fun e w' => e = .returned (.int .u64 (handleF a b).1) ∧ w = w' := by
  by_cases h1 : 1 ≤ a
  · by_cases h2 : a ≤ 268435455
    · by_cases h3 : 1 ≤ b
      · by_cases h4 : b ≤ 65535
        · have Hf := Lib.hid (show handleF a b = (a * 65536 + b, true) from if_pos ⟨⟨h1, h2⟩, h3, h4⟩)
          go_enter Try.func103, Try.ntmps103
          go_wp2
          go_ret
          exact ⟨by rw [Hf.out]; simp, rfl⟩
        · have Hf := Lib.hid (show handleF a b = (0, false) from if_neg (by omega))
          go_enter Try.func103, Try.ntmps103
          go_wp2
          go_ret
          exact ⟨by rw [Hf.out]; simp, rfl⟩
      · have Hf := Lib.hid (show handleF a b = (0, false) from if_neg (by omega))
        go_enter Try.func103, Try.ntmps103
        go_wp2
        go_ret
        exact ⟨by rw [Hf.out]; simp, rfl⟩
    · have Hf := Lib.hid (show handleF a b = (0, false) from if_neg (by omega))
      go_enter Try.func103, Try.ntmps103
      go_wp2
      go_ret
      exact ⟨by rw [Hf.out]; simp, rfl⟩
  · have Hf := Lib.hid (show handleF a b = (0, false) from if_neg (by omega))
    go_enter Try.func103, Try.ntmps103
    go_wp2
    go_ret
    exact ⟨by rw [Hf.out]; simp, rfl⟩

end Go.Proofs.Ytnkikhhiaecebaa
/- Contracts of packages least and arena (layers 2 and 3): makers, the words of an address. -/
namespace Go.Proofs.Ytnkikhhiaecebaa
open Go.RowKit

theorem info_u64 : (Try.prog.info? 29).map (fun i => (i.zero, i.size, i.bytes)) = some (some (.int .u64 0), 1, 8) := by kernel_rfl

theorem leastNew (w : World) {R : Assn} (h : Sat w R) :
    Calls Try.prog 88 #[.int .i64 65535] w fun e w' => ∃ ps, e = .returned (.tuple #[.pointer (some ⟨ps, 0, none⟩), .int .i64 0]) ∧ Sat w' (stkAt ps { high := 0, used := [], back := [] } * R) ∧ Kept w w' := by
  have hmm := @run_makeMap Try.prog
  go_enter Try.func88, Try.ntmps88
  go_wp2
  go_ret2
  refine ⟨_, rfl, ?_, ((Kept.refl w).alloc _).alloc _⟩
  refine Sat.mk_ex_mul (w.heap.size, .slice none 0 0) ?_
  have h1 := (h.alloc (.map #[] 0)).alloc (.cells #[.int .i64 65535, .int .i64 0, .slice none 0 0, .map (some w.heap.size)] 272)
  have h2 := mapAt_shut (b := w.heap.size) (l := []) mapL_nil h1.swap
  have h3 := rowAt_nil (T := 3) h2
  refine h3.cast ?_
  simp [intv]
  ac_rfl

theorem arenaNew (cap : Nat) (w : World) {R : Assn} (h : Sat w R) (hc : cap ≤ 60000) :
    Calls Try.prog 13 #[.int .i64 cap] w fun e w' => ∃ p, e = .returned (.tuple #[.pointer (some ⟨p, 0, none⟩), .int .i64 0]) ∧ Sat w' (arAt p (Ar.new cap) * R) ∧ Kept w w' := by
  have hmm := @run_makeMap Try.prog
  go_enter Try.func13, Try.ntmps13
  go_wp2_with fail
  refine (leastNew _ h).mono ?_; rintro e w1 ⟨ps, rfl, hs, hk⟩
  go_wp2
  go_ret2
  refine ⟨_, rfl, ?_, (hk.alloc _).alloc _⟩
  have h1 := ((hs.alloc (.map #[] 0)).alloc (.cells (arCells (Ar.new cap) ps w1.heap.size) 172))
  have h2 := mapAt_shut (b := w1.heap.size) (l := []) mapL_nil h1.swap
  refine arAt_shut (ps := ps) (pb := w1.heap.size) (ArInv.new hc) ?_
  refine Sat.cast (P := mapAt w1.heap.size [] * (own (w1.alloc (.map #[] 0)).heap.size (.cells (arCells (Ar.new cap) ps w1.heap.size) 172) * (stkAt ps { high := 0, used := [], back := [] } * R))) h2 ?_
  rw [show (w1.alloc (.map #[] 0)).heap.size = w1.heap.size + 1 by simp]
  show _ = own _ _ * (stkAt ps { high := 0, used := [], back := [] } * (mapAt w1.heap.size [] * (1 * R)))
  rw [Assn.one_mul]
  ac_rfl

theorem add_spot (a : Addr) (n : Nat) : (a.add n).block = a.block := by unfold Addr.add; split <;> rfl
theorem cell_alloc_past' (w : World) (o : Obj) (x : Addr) (h : x.block < w.heap.size) : (w.alloc o).cell? x = w.cell? x := by
  unfold World.cell?
  rw [Below.heap_alloc _ _ _ h]

theorem clone_any (g : Addr) (cap : Nat) (l : List Nat) (m : Nat) (w : World) {P : Assn} (h : Sat w P) (hm : l.length = m) (hcells : ∀ j u, (u64s l)[j]? = some u → w.cell? (g.add j) = some u) (hl : 1 ≤ m) (hl2 : m ≤ 2048) (hg : g.block < w.heap.size) :
    Calls Try.prog 91 #[.slice (some g) m cap] w fun e w' => ∃ v', e = .returned v' ∧ Sat w' (rowAt 29 v' (u64s l) * P) ∧ Below w.heap.size w w' := by
  obtain ⟨i0, hi, hz0, hz1, hz2⟩ := info_parts info_u64
  have hlen : (u64s l).length = m := by simp [u64s, hm]
  have hne := fun (w : World) => Lib.run_eql_slice_nil (P := Try.prog) w 42 29 (some g) m cap 0 0 Try.underlying42
  have Hc := Lib.hid hcells
  have Hlen := Lib.hid hlen
  clear hcells hlen
  go_enter Try.func91, Try.ntmps91
  go_wp2_with (at_builtin; refine wpList_append_own _ rfl _ _ 42 rfl w.heap.size 29 i0 (.int .u64 0) 1 8 Try.underlying42 hi hz0 hz1 hz2 rfl (by decide) _ 0 [] rfl (World.ownsRow_lit w #[] 0 (Nat.le_refl _) (by unfold maxLen; omega) rfl) g m cap (u64s l) rfl (by rw [Hlen.out]; simp) ?c1 ?c2 ?c3 ?c4 ?c5 ?_)
  case c1 =>
    intro j u hj
    have e := add_spot g j
    rw [cell_alloc_past' _ _ _ (by rw [e]; exact hg)]; exact Hc.out j u hj
  case c2 => intro u hu; simp [u64s] at hu; obtain ⟨_, _, rfl⟩ := hu; rfl
  case c3 => unfold maxLen; omega
  case c4 => omega
  case c5 => simp
  intro v' w1 hown' hgrow _
  have hb1 : Below w.heap.size w w1 := (((Below.refl _ _).alloc (Nat.le_refl _) (.cells #[] 29)).grown hgrow (by simp) (fun k hk => by cases hk; exact Nat.le_refl _))
  go_wp2
  go_ret
  refine ⟨_, rfl, ?_, hb1⟩
  have := rowAt_made h hb1 hown'
  exact this

theorem clone_u64 (v : Value) (l : List Nat) (w : World) {R : Assn} (h : Sat w (rowAt 29 v (u64s l) * R)) (hl : 1 ≤ l.length) (hl2 : l.length ≤ 2048) :
    Calls Try.prog 91 #[v] w fun e w' => ∃ v', e = .returned v' ∧ Sat w' (rowAt 29 v' (u64s l) * (rowAt 29 v (u64s l) * R)) ∧ Below w.heap.size w w' := by
  obtain ⟨i0, hi, hz0, hz1, hz2⟩ := info_parts info_u64
  have hrow := rowAt_open h
  rcases hrow with ⟨_, h2, _⟩ | ⟨g, cap, cur, rfl, h2, h3, h4, h5, h6⟩
  · simp [u64s] at h2; subst h2; simp at hl
  · have hlen : (u64s l).length = l.length := by simp [u64s]
    have hcells := row_cell h6 h5
    have hg := h6.lt
    have hne := fun (w : World) => Lib.run_eql_slice_nil (P := Try.prog) w 42 29 (some ⟨g, 0, none⟩) (u64s l).length cap 0 0 Try.underlying42
    have Hc := Lib.hid hcells
    have Hlen := Lib.hid hlen
    have H3 := Lib.hid h3
    clear h5 h6 hcells h3 h4 hlen
    generalize (u64s l).length = m at *
    go_enter Try.func91, Try.ntmps91
    go_wp2_with (at_builtin; refine wpList_append_own _ rfl _ _ 42 rfl w.heap.size 29 i0 (.int .u64 0) 1 8 Try.underlying42 hi hz0 hz1 hz2 rfl (by decide) _ 0 [] rfl (World.ownsRow_lit w #[] 0 (Nat.le_refl _) (by unfold maxLen; omega) rfl) ⟨g, 0, none⟩ m cap (u64s l) rfl (by rw [Hlen.out]; simp [u64s]) ?c1 ?c2 ?c3 ?c4 ?c5 ?_)
    case c1 =>
      intro j u hj
      have e : ((⟨g, 0, none⟩ : Addr).add j) = ⟨g, j, none⟩ := by (by_cases h0 : j = 0) <;> simp [Addr.add, h0]
      rw [e, World.cell?_alloc_past _ _ _ hg]; exact Hc.out j u hj
    case c2 => intro u hu; simp [u64s] at hu; obtain ⟨_, _, rfl⟩ := hu; rfl
    case c3 => have := Hlen.out; unfold maxLen; omega
    case c4 => have := Hlen.out; omega
    case c5 => simp
    intro v' w1 hown' hgrow _
    have hb1 : Below w.heap.size w w1 := (((Below.refl _ _).alloc (Nat.le_refl _) (.cells #[] 29)).grown hgrow (by simp) (fun k hk => by cases hk; exact Nat.le_refl _))
    go_wp2
    go_ret
    exact ⟨_, rfl, rowAt_made h hb1 hown', hb1⟩
end Go.Proofs.Ytnkikhhiaecebaa

/- Contracts of package arena (layer 3): the words of an address; read, write, swap, add. -/
namespace Go.Proofs.Ytnkikhhiaecebaa
open Go.RowKit

structure Sees (w : World) (p : Nat) (A : Ar) : Prop where
  inv : ArInv A
  lt : p < w.heap.size
  look : ∃ pb es clock, w.cell? ⟨p, 15, none⟩ = some (.map (some pb)) ∧ w.heap[pb]? = some (.map es clock) ∧ MapL es clock (A.bs.map ent)

theorem look_ent {bs : List Blk} {n : Nat} : look (bs.map ent) n = (bs.find? fun b => b.n == n).map fun b => .agg #[.int .u64 b.h, b.v] := by
  induction bs with
  | nil => rfl
  | cons b bs ih =>
    simp only [look, List.map_cons, List.find?_cons, ent] at ih ⊢
    by_cases h : b.n = n
    · simp [h]
    · have e1 : ((b.n : Int) == (n : Int)) = false := by simp; omega
      have e2 : (b.n == n) = false := by simpa using h
      rw [e1, e2]; exact ih

theorem find_look {A : Ar} (hi : ArInv A) (h : Nat) : (∃ b, A.find h = some b ∧ b.h = h ∧ look (A.bs.map ent) ((h % 65536 : Nat) : Int) = some (.agg #[.int .u64 h, b.v])) ∨
    (A.find h = none ∧ (look (A.bs.map ent) ((h % 65536 : Nat) : Int) = none ∨ ∃ b : Blk, b.h ≠ h ∧ look (A.bs.map ent) ((h % 65536 : Nat) : Int) = some (.agg #[.int .u64 b.h, b.v]))) := by
  rw [look_ent]
  have hr := hi.range
  have ha := hi.apart
  unfold Ar.find
  generalize A.bs = bs at hr ha
  induction bs with
  | nil => exact .inr ⟨rfl, .inl rfl⟩
  | cons b bs ih =>
    have hb := hr b (by simp)
    simp only [List.find?_cons]
    by_cases e : b.h = h
    · left
      have e1 : (b.n == h % 65536) = true := by simp; omega
      exact ⟨b, by simp [e], e, by rw [e1]; simp [e]⟩
    · have e2 : (b.h == h) = false := by simpa using e
      rw [e2]
      by_cases e3 : b.n = h % 65536
      · right
        refine ⟨?_, .inr ⟨b, e, by simp [e3]⟩⟩
        simp only [List.find?_eq_none]
        intro x hx hxh
        have hxr := hr x (by simp [hx])
        simp only [List.map_cons, List.nodup_cons, List.mem_map] at ha
        refine ha.1 ⟨x, hx, ?_⟩
        have : x.h = h := by simpa using hxh
        omega
      · have e4 : (b.n == h % 65536) = false := by simpa using e3
        rw [e4]
        exact ih (fun x hx => hr x (by simp [hx])) (by simp only [List.map_cons, List.nodup_cons] at ha; exact ha.2)

theorem zero_block : ∀ w, (zeroValue 179).run Try.prog w = .ok (.agg #[.int .u64 0, .slice none 0 0]) w := fun w => by kernel_rfl

set_option maxHeartbeats 800000 in
set_option maxRecDepth 100000 in
theorem find_yes (p h g n c : Nat) (A : Ar) (b : Blk) (w : World) (hs : Sees w p A) (hh : h < TW) (hf : A.find h = some b) (hv : b.v = .slice (some ⟨g, 0, none⟩) n c) :
    Calls Try.prog 93 #[.pointer (some ⟨p, 0, none⟩), .int .u64 h] w fun e w' => e = .returned (.tuple #[.slice (some ⟨g, 0, none⟩) n c, .bool true]) ∧ Below w.heap.size w w' := by
  obtain ⟨pb, es, clock, hc, hm, hl⟩ := hs.look
  have hp := hs.lt
  have hlk : look (A.bs.map ent) ((h % 65536 : Nat) : Int) = some (.agg #[.int .u64 h, b.v]) := by
    rcases find_look hs.inv h with ⟨b', h1, h2, h3⟩ | ⟨h1, _⟩
    · rw [hf] at h1; cases h1; exact h3
    · rw [hf] at h1; cases h1
  rw [hv] at hlk
  have hrun : (Instr.lookup 170 (.map (some pb)) (.int .i64 ((h : Int) % 65536)) true).run Try.prog w.drew = .ok (.tuple #[.agg #[.int .u64 h, .slice (some ⟨g, 0, none⟩) n c], .bool true]) w.drew := by
    have := lookup_ok (P := Try.prog) (w := w.drew) hm hl Try.underlying170 Try.underlying3 (zero_block _) ((h % 65536 : Nat) : Int)
    rw [hlk] at this
    simpa using this
  have hrun2 : (Instr.lookup 170 (.map (some pb)) (.int .i64 ((h : Int) % 65536)) true).run Try.prog (w.alloc (.cells #[.int .u64 0, .slice none 0 0] 179)).drew = .ok (.tuple #[.agg #[.int .u64 h, .slice (some ⟨g, 0, none⟩) n c], .bool true]) (w.alloc (.cells #[.int .u64 0, .slice none 0 0] 179)).drew := by
    have hlt : pb < w.heap.size := heap_lt hm
    have := lookup_ok (P := Try.prog) (w := (w.alloc (.cells #[.int .u64 0, .slice none 0 0] 179)).drew) ((Below.heap_alloc _ _ _ hlt).trans hm) hl Try.underlying170 Try.underlying3 (zero_block _) ((h % 65536 : Nat) : Int)
    rw [hlk] at this
    simpa using this
  have hwr : IntKind.i64.wrap ((h : Int) % 65536) = (h : Int) % 65536 := IntWalk.i64_in _ (by omega)
  clear hlk hl hm hf hs hv
  go_enter Try.func93, Try.ntmps93
  go_wp2
  go_region_with (go_at_call 95; refine (block_any h _ hh).mono ?_; rintro e w' ⟨rfl, rfl⟩)
  all_goals (go_wp2; go_ret2; exact ⟨rfl, ((Below.refl _ _).alloc (Nat.le_refl _) _).drew⟩)

set_option maxHeartbeats 800000 in
theorem at_fixed (p i : Nat) (w : World) (hp : p < w.heap.size) (hi : i < 9) :
    Calls Try.prog 92 #[.pointer (some ⟨p, 0, none⟩), .agg #[.int .u64 0, .int .i64 i]] w fun e w' => e = .returned (.tuple #[.slice (some ⟨p, 5, none⟩) 9 9, .int .i64 0]) ∧ Below w.heap.size w w' := by
  go_enter Try.func92, Try.ntmps92
  go_wp2
  go_ret2
  exact ⟨rfl, (by repeat first | exact Below.refl _ _ | (refine Below.alloc ?_ (by simp) _) | (refine Below.setCell ?_ (by simp) _) | refine below_drewN ?_ _)⟩

set_option maxHeartbeats 800000 in
theorem at_block (p h i g n c : Nat) (A : Ar) (b : Blk) (w : World) (hs : Sees w p A) (hh : h < TW) (h0 : h ≠ 0) (hf : A.find h = some b) (hv : b.v = .slice (some ⟨g, 0, none⟩) n c) (hi : i < n) :
    Calls Try.prog 92 #[.pointer (some ⟨p, 0, none⟩), .agg #[.int .u64 h, .int .i64 i]] w fun e w' => e = .returned (.tuple #[.slice (some ⟨g, 0, none⟩) n c, .int .i64 0]) ∧ Below w.heap.size w w' := by
  have hne : ((h : Int) != 0) = true := by rw [bne_iff_ne]; omega
  have hp := hs.lt
  obtain ⟨pb, es, clock, hc, hm, hl⟩ := hs.look
  have Hs : Go.RowKit.Hid (Sees (w.alloc (.cells #[.int .u64 h, .int .i64 i] 34)) p A) := by
    refine ⟨hs.inv, by simp; omega, pb, es, clock, ?_, (Below.heap_alloc _ _ _ (heap_lt hm)).trans hm, hl⟩
    rw [World.cell?_alloc_past _ _ _ hp]; exact hc
  have Hf := Lib.hid hf
  have Hv := Lib.hid hv
  clear hs hc hm hl hf hv
  go_enter Try.func92, Try.ntmps92
  go_wp2_with fail
  refine (find_yes p h g n c A b _ Hs.out hh Hf.out Hv.out).mono ?_; rintro e w1 ⟨rfl, hb1⟩
  have e1 := (hb1.cell (p := ⟨w.heap.size, 1, none⟩) (by simp)).trans (show (w.alloc (.cells #[.int .u64 h, .int .i64 i] 34)).cell? ⟨w.heap.size, 1, none⟩ = some (.int .i64 i) by go_simp)
  go_wp2
  go_ret2
  exact ⟨rfl, ((Below.refl _ _).alloc (Nat.le_refl _) _).trans (hb1.mono (by simp))⟩
end Go.Proofs.Ytnkikhhiaecebaa

/- Package pace (layer 4): what comes next, a function in a field. -/
namespace Go.Proofs.Ytnkikhhiaecebaa
open Go.RowKit



end Go.Proofs.Ytnkikhhiaecebaa
/- Contracts of package dir (layer 10) and of the document's functions: what lies in no memory. -/
namespace Go.Proofs.Ytnkikhhiaecebaa
open Go.RowKit

end Go.Proofs.Ytnkikhhiaecebaa

/- Contracts of package dir (layer 10): what answers an address, a size, a slot; and the document's. -/
namespace Go.Proofs.Ytnkikhhiaecebaa
open Go.RowKit

end Go.Proofs.Ytnkikhhiaecebaa

/- Contracts of dir.Path and of the document's Path: a row of the call's own. -/
namespace Go.Proofs.Ytnkikhhiaecebaa
open Go.RowKit

theorem info_int : (Try.prog.info? 3).map (fun i => (i.zero, i.size, i.bytes)) = some (some (.int .i64 0), 1, 8) := by kernel_rfl

end Go.Proofs.Ytnkikhhiaecebaa
/- The library's contracts of maps.Clone, maps.Keys, slices.Sorted and slices.Sort, laid at this program. -/
namespace Go.Proofs.Ytnkikhhiaecebaa
open Go Go.Shelf Go.RowKit Go.Maps Go.Sort
def mapsClone_ren : Go.Shelf.Ren := ⟨fun | 5 => 136 | 7 => 189 | n => n, fun | 23 => 240 | 25 => 3 | 3 => 3 | 4 => 4 | 20 => 20 | n => n, fun | n => n⟩
theorem mapsClone : Go.Proofs.SlLaysW.n5 Try.prog mapsClone_ren where
  mixed := by kernel_rfl
  f5 := ⟨Try.f136.name, by decide, Try.func136.trans (congrArg some (by kernel_rfl))⟩
  f7 := Try.func189.trans (congrArg some (by kernel_rfl))
  t4 := Try.underlying4
  a4 := Try.isAgg4
  z4 := Try.sizeOf4
  v4 := Try.zeroValue4
  t20 := Try.underlying20
  a20 := Try.isAgg20
  z20 := Try.sizeOf20
  v20 := Try.zeroValue20
  t23 := Try.underlying240
  a23 := Try.isAgg240
  z23 := Try.sizeOf240
  v23 := Try.zeroValue240
def keysL_ren : Go.Shelf.Ren := ⟨fun | 7 => 164 | 10 => 202 | n => n, fun | 23 => 170 | 26 => 3 | 3 => 179 | 28 => 281 | 0 => 0 | 27 => 280 | 33 => 265 | 4 => 4 | n => n, fun | n => n⟩
theorem keysL : Go.Proofs.SlLaysZI.n7 Try.prog keysL_ren where
  mixed := by kernel_rfl
  f7 := ⟨Try.f164.name, by decide, Try.func164.trans (congrArg some (by kernel_rfl))⟩
  f10 := ⟨Try.f202.name, by decide, Try.func202.trans (congrArg some (by kernel_rfl))⟩
  t0 := Try.underlying0
  a0 := Try.isAgg0
  z0 := Try.sizeOf0
  v0 := Try.zeroValue0
  t4 := Try.underlying4
  a4 := Try.isAgg4
  z4 := Try.sizeOf4
  v4 := Try.zeroValue4
  t23 := Try.underlying170
  a23 := Try.isAgg170
  z23 := Try.sizeOf170
  v23 := Try.zeroValue170
  t26 := Try.underlying3
  a26 := Try.isAgg3
  z26 := Try.sizeOf3
  v26 := Try.zeroValue3
  t27 := Try.underlying280
  a27 := Try.isAgg280
  z27 := Try.sizeOf280
  v27 := Try.zeroValue280
  t28 := Try.underlying281
  a28 := Try.isAgg281
  z28 := Try.sizeOf281
  v28 := Try.zeroValue281
  t33 := Try.underlying265
  a33 := Try.isAgg265
  z33 := Try.sizeOf265
  v33 := Try.zeroValue265
def sortedL_ren : Go.Shelf.Ren := ⟨fun | 6 => 163 | 8 => 200 | 9 => 201 | 11 => 216 | 13 => 218 | 12 => 217 | 23 => 243 | 24 => 244 | 14 => 234 | 15 => 235 | 16 => 236 | 17 => 237 | 18 => 238 | 19 => 239 | 20 => 240 | 21 => 241 | 22 => 242 | 25 => 252 | 26 => 253 | 27 => 254 | 28 => 255 | 29 => 256 | 30 => 257 | 31 => 258 | n => n, fun | 26 => 3 | 28 => 281 | 24 => 144 | 0 => 0 | 3 => 3 | 37 => 58 | 48 => 369 | 50 => 29 | 4 => 4 | 40 => 363 | 39 => 362 | 45 => 314 | 5 => 5 | 9 => 9 | 51 => 371 | 55 => 375 | 57 => 377 | 58 => 225 | 33 => 265 | n => n, fun | n => n⟩
theorem sortedL : Go.Proofs.SlLaysZI.n6 Try.prog sortedL_ren where
  mixed := by kernel_rfl
  f6 := ⟨Try.f163.name, by decide, Try.func163.trans (congrArg some (by kernel_rfl))⟩
  f8 := ⟨Try.f200.name, by decide, Try.func200.trans (congrArg some (by kernel_rfl))⟩
  f11 := ⟨Try.f216.name, by decide, Try.func216.trans (congrArg some (by kernel_rfl))⟩
  t0 := Try.underlying0
  a0 := Try.isAgg0
  z0 := Try.sizeOf0
  v0 := Try.zeroValue0
  t24 := Try.underlying144
  a24 := Try.isAgg144
  z24 := Try.sizeOf144
  v24 := Try.zeroValue144
  t26 := Try.underlying3
  a26 := Try.isAgg3
  z26 := Try.sizeOf3
  v26 := Try.zeroValue3
  t28 := Try.underlying281
  a28 := Try.isAgg281
  z28 := Try.sizeOf281
  v28 := Try.zeroValue281
  i26 := by kernel_rfl
def sortL_ren : Go.Shelf.Ren := ⟨fun | 5 => 201 | 8 => 218 | 7 => 217 | 19 => 243 | 20 => 244 | 10 => 234 | 11 => 235 | 12 => 236 | 13 => 237 | 14 => 238 | 15 => 239 | 16 => 240 | 17 => 241 | 18 => 242 | 30 => 252 | 31 => 253 | 32 => 254 | 33 => 255 | 34 => 256 | 35 => 257 | 40 => 258 | n => n, fun | 23 => 144 | 25 => 3 | 3 => 3 | 32 => 58 | 22 => 144 | 0 => 0 | 44 => 369 | 46 => 29 | 4 => 4 | 36 => 363 | 35 => 362 | 41 => 314 | 5 => 5 | 9 => 9 | 53 => 371 | 57 => 375 | 63 => 377 | 64 => 225 | n => n, fun | n => n⟩
theorem sortL : Go.Proofs.SlLaysM.n5 Try.prog sortL_ren where
  mixed := by kernel_rfl
  f5 := ⟨Try.f201.name, by decide, Try.func201.trans (congrArg some (by kernel_rfl))⟩
  f7 := ⟨Try.f217.name, by decide, Try.func217.trans (congrArg some (by kernel_rfl))⟩
  f8 := Try.func218.trans (congrArg some (by kernel_rfl))
  f10 := ⟨Try.f234.name, by decide, Try.func234.trans (congrArg some (by kernel_rfl))⟩
  f11 := ⟨Try.f235.name, by decide, Try.func235.trans (congrArg some (by kernel_rfl))⟩
  f12 := ⟨Try.f236.name, by decide, Try.func236.trans (congrArg some (by kernel_rfl))⟩
  f13 := ⟨Try.f237.name, by decide, Try.func237.trans (congrArg some (by kernel_rfl))⟩
  f14 := ⟨Try.f238.name, by decide, Try.func238.trans (congrArg some (by kernel_rfl))⟩
  f15 := ⟨Try.f239.name, by decide, Try.func239.trans (congrArg some (by kernel_rfl))⟩
  f16 := ⟨Try.f240.name, by decide, Try.func240.trans (congrArg some (by kernel_rfl))⟩
  f17 := ⟨Try.f241.name, by decide, Try.func241.trans (congrArg some (by kernel_rfl))⟩
  f18 := ⟨Try.f242.name, by decide, Try.func242.trans (congrArg some (by kernel_rfl))⟩
  f19 := Try.func243.trans (congrArg some (by kernel_rfl))
  f20 := Try.func244.trans (congrArg some (by kernel_rfl))
  f30 := ⟨Try.f252.name, by decide, Try.func252.trans (congrArg some (by kernel_rfl))⟩
  f31 := Try.func253.trans (congrArg some (by kernel_rfl))
  f32 := Try.func254.trans (congrArg some (by kernel_rfl))
  f33 := ⟨Try.f255.name, by decide, Try.func255.trans (congrArg some (by kernel_rfl))⟩
  f34 := ⟨Try.f256.name, by decide, Try.func256.trans (congrArg some (by kernel_rfl))⟩
  f35 := ⟨Try.f257.name, by decide, Try.func257.trans (congrArg some (by kernel_rfl))⟩
  f40 := ⟨Try.f258.name, by decide, Try.func258.trans (congrArg some (by kernel_rfl))⟩
  t0 := Try.underlying0
  a0 := Try.isAgg0
  z0 := Try.sizeOf0
  v0 := Try.zeroValue0
  t3 := Try.underlying3
  a3 := Try.isAgg3
  z3 := Try.sizeOf3
  v3 := Try.zeroValue3
  t4 := Try.underlying4
  a4 := Try.isAgg4
  z4 := Try.sizeOf4
  v4 := Try.zeroValue4
  t5 := Try.underlying5
  a5 := Try.isAgg5
  z5 := Try.sizeOf5
  v5 := Try.zeroValue5
  t9 := Try.underlying9
  a9 := Try.isAgg9
  z9 := Try.sizeOf9
  v9 := Try.zeroValue9
  t22 := Try.underlying144
  a22 := Try.isAgg144
  z22 := Try.sizeOf144
  v22 := Try.zeroValue144
  t23 := Try.underlying144
  a23 := Try.isAgg144
  z23 := Try.sizeOf144
  v23 := Try.zeroValue144
  t25 := Try.underlying3
  a25 := Try.isAgg3
  z25 := Try.sizeOf3
  v25 := Try.zeroValue3
  t32 := Try.underlying58
  a32 := Try.isAgg58
  z32 := Try.sizeOf58
  v32 := Try.zeroValue58
  t35 := Try.underlying362
  a35 := Try.isAgg362
  z35 := Try.sizeOf362
  v35 := Try.zeroValue362
  t36 := Try.underlying363
  a36 := Try.isAgg363
  z36 := Try.sizeOf363
  v36 := Try.zeroValue363
  t41 := Try.underlying314
  a41 := Try.isAgg314
  z41 := Try.sizeOf314
  v41 := Try.zeroValue314
  t44 := Try.underlying369
  a44 := Try.isAgg369
  z44 := Try.sizeOf369
  v44 := Try.zeroValue369
  t46 := Try.underlying29
  a46 := Try.isAgg29
  z46 := Try.sizeOf29
  v46 := Try.zeroValue29
  t53 := Try.underlying371
  a53 := Try.isAgg371
  z53 := Try.sizeOf371
  v53 := Try.zeroValue371
  t57 := Try.underlying375
  a57 := Try.isAgg375
  z57 := Try.sizeOf375
  v57 := Try.zeroValue375
  t63 := Try.underlying377
  a63 := Try.isAgg377
  z63 := Try.sizeOf377
  v63 := Try.zeroValue377
  t64 := Try.underlying225
  a64 := Try.isAgg225
  z64 := Try.sizeOf225
  v64 := Try.zeroValue225
theorem sortsIn (m : Nat) : AnyZI.SortsIn Try.prog sortedL_ren Fence.wide m :=
  ⟨fun blk off cap ss W hH hblk hsz => callsIn_wide.2 (AnyM.slices_Sort_int sortL blk off cap ss W hH hblk hsz), fun p cap W => callsIn_wide.2 (AnyM.slices_Sort_int_none sortL p cap W)⟩
theorem keys_of (mb : Option Nat) (n : Nat) (W : World) : CallsIn Fence.wide n Try.prog 164 #[.map mb] W fun e w' =>
    e = .returned (.func (.func 202) #[] #[.pointer (some ⟨W.heap.size, 0, none⟩)]) ∧ w' = W.alloc (.cells #[.map mb] 170) :=
  AnyZI.keys_in keysL Fence.wide n trivial rfl mb W
theorem sorted_of {H : Type} (b nn : Nat) (D0 : DataW H) (R : Value → Option (DataW H × List MemPlace)) (w : World) (hown : w.ownsMap Try.prog 3 R b nn D0) (hmax : Maps.size D0 ≤ maxLen) (hbytes : Maps.size D0 * 8 ≤ 140737488355328) (n : Nat) (hn : 5 ≤ n) :
    CallsIn Fence.wide n Try.prog 163 #[.func (.func 202) #[] #[.pointer (some ⟨w.heap.size, 0, none⟩)]] (w.alloc (.cells #[.map (some b)] 170)) fun e w' =>
      ∃ (v : Value) (ss : List Int), e = .returned v ∧ ss.Perm (intKeys D0) ∧
      w'.ownsRow (w.alloc (.cells #[.map (some b)] 170)).heap.size 3 1 v ss.length ((ss.mergeSort (fun x y => decide (x ≤ y))).map encZ) ∧ Below (w.alloc (.cells #[.map (some b)] 170)).heap.size (w.alloc (.cells #[.map (some b)] 170)) w' := by
  have hbl := hown.lt
  have hseq : SeqGives Fence.wide (n - 1 - 1 - 1) Try.prog 202 #[.pointer (some ⟨w.heap.size, 0, none⟩)] encZ (fun ss => ss.Perm (intKeys D0)) (Maps.size D0) (w.alloc (.cells #[.map (some b)] 170)) :=
    AnyZI.keys_gives (ρ := keysL_ren) { keysL with } Fence.wide _ trivial rfl (by omega) w.heap.size b nn D0 _ (by simp) (by simp) (by
      obtain ⟨es, clock, hb, Ft, hs, hD⟩ := hown
      exact ⟨es, clock, (Below.heap_alloc _ _ b hbl).trans hb, Ft, hs, hD⟩)
  refine CallsIn.mono (AnyZI.sorted_in sortedL Fence.wide n trivial trivial trivial trivial rfl (by omega) (sortsIn _) (enters_of Try.func201 (by kernel_rfl) rfl) 202 #[.pointer (some ⟨w.heap.size, 0, none⟩)] trivial (enters_of Try.func202 (by kernel_rfl) rfl) _ _ hmax hbytes _ hseq) ?_
  rintro e w' ⟨v, ss, h1, h2, h3, _, h5⟩
  exact ⟨v, ss, h1, h2, h3, h5⟩
end Go.Proofs.Ytnkikhhiaecebaa

/- Copies of maps and of rows of numbers; the keys of a map, sorted. -/
namespace Go.Proofs.Ytnkikhhiaecebaa
open Go Go.RowKit Go.Maps Go.Sort Go.Shelf

theorem maps_clone (b : Nat) (l : List (Int × Value)) (w : World) {R : Assn} (H : Sat w (mapAt b l * R)) : Calls Try.prog 136 #[.map (some b)] w fun e w' => ∃ c, e = .returned (.map (some c)) ∧ Sat w' (mapAt c l * (mapAt b l * R)) ∧ Below w.heap.size w w' := by
  obtain ⟨es, clock, hl, h⟩ := mapAt_open H
  refine (AnyW.maps_Clone mapsClone b es clock w h.block).mono ?_
  rintro e w' ⟨rfl, rfl⟩
  exact ⟨_, rfl, mapAt_shut hl ((H.alloc (.map es clock))), (Below.refl _ w).alloc (Nat.le_refl _) _⟩
theorem clone_row (v : Value) (l : List Nat) (w : World) {R : Assn} (h : Sat w (rowAt 3 v (intv l) * R)) (hl2 : l.length ≤ 70000) :
    Calls Try.prog 165 #[v] w fun e w' => ∃ v', e = .returned v' ∧ Sat w' (rowAt 3 v' (intv l) * (rowAt 3 v (intv l) * R)) ∧ Below w.heap.size w w' := by
  obtain ⟨i0, hi, hz0, hz1, hz2⟩ := info_parts info_int
  have hrow := rowAt_open h
  rcases hrow with ⟨rfl, h2, h3⟩ | ⟨g, cap, cur, rfl, h2, h3, h4, h5, h6⟩
  · have hne := fun (w : World) => Lib.run_eql_slice_nil (P := Try.prog) w 270 3 none 0 0 0 0 Try.underlying270
    have HH := Lib.hid h
    rw [h2] at HH ⊢
    clear h h3
    go_enter Try.func165, Try.ntmps165
    go_wp2
    go_ret
    exact ⟨_, rfl, rowAt_nil HH.out, Below.refl _ _⟩
  · have hlen : (intv l).length = l.length := by simp [intv]
    have hcells := row_cell h6 h5
    have hg := h6.lt
    have hne := fun (w : World) => Lib.run_eql_slice_nil (P := Try.prog) w 270 3 (some ⟨g, 0, none⟩) (intv l).length cap 0 0 Try.underlying270
    have Hc := Lib.hid hcells
    have Hlen := Lib.hid hlen
    have H3 := Lib.hid h3
    clear h5 h6 hcells h3 h4 hlen
    generalize (intv l).length = m at *
    go_enter Try.func165, Try.ntmps165
    go_wp2_with (at_builtin; refine wpList_append_own _ rfl _ _ 270 rfl w.heap.size 3 i0 (.int .i64 0) 1 8 Try.underlying270 hi hz0 hz1 hz2 rfl (by decide) _ 0 [] rfl (World.ownsRow_lit w #[] 0 (Nat.le_refl _) (by unfold maxLen; omega) rfl) ⟨g, 0, none⟩ m cap (intv l) rfl (by rw [Hlen.out]; simp [intv]) ?c1 ?c2 ?c3 ?c4 ?c5 ?_)
    case c1 =>
      intro j u hj
      have e : ((⟨g, 0, none⟩ : Addr).add j) = ⟨g, j, none⟩ := by (by_cases h0 : j = 0) <;> simp [Addr.add, h0]
      rw [e, World.cell?_alloc_past _ _ _ hg]; exact Hc.out j u hj
    case c2 => intro u hu; simp [intv] at hu; obtain ⟨_, _, rfl⟩ := hu; rfl
    case c3 => have := Hlen.out; unfold maxLen; omega
    case c4 => have := Hlen.out; omega
    case c5 => simp
    intro v' w1 hown' hgrow _
    have hb1 : Below w.heap.size w w1 := (((Below.refl _ _).alloc (Nat.le_refl _) (.cells #[] 3)).grown hgrow (by simp) (fun k hk => by cases hk; exact Nat.le_refl _))
    go_wp2
    go_ret
    exact ⟨_, rfl, rowAt_made h hb1 hown', hb1⟩

theorem keys_own {w : World} {b : Nat} {es : Array MapEntry} {clock : Nat} {l : List (Int × Value)} (hb : w.heap[b]? = some (.map es clock)) (hl : MapL es clock l) (hn : l.length ≤ 70000) (hr : ∀ x ∈ l, 0 ≤ x.1 ∧ x.1 ≤ 1000000) :
    ∃ D : DataW Unit, w.ownsMap Try.prog 3 (fun _ => some (.nil, [])) b l.length D ∧ (intKeys D).Perm (l.map (·.1)) ∧ Maps.size D = l.length := by
  have hsz : es.size = l.length := by
    have := congrArg List.length hl.1
    simpa using this
  have hrd : ∀ x ∈ es.toList, ∃ k : Int, x.key = .int .i64 k ∧ WideElems.rd Try.prog 3 (fun _ => some ((.nil : DataW Unit), [])) x = some (.int .i64 k, .nil) := by
    intro x hx
    obtain ⟨y, hy, ek, ev⟩ := mapL_keys hl hx
    have h1 := hr y hy
    refine ⟨y.1, ek, ?_⟩
    unfold WideElems.rd
    rw [ek, Maps.keyOf_int_mk (q := .i64) Try.underlying3 (by simp only [Lit.wf, Bool.and_eq_true, decide_eq_true_eq, show IntKind.i64.min = -9223372036854775808 from rfl, show IntKind.i64.max = 9223372036854775807 from rfl]; omega)]
    rfl
  refine ⟨_, ⟨es, clock, hb, ⟨by rw [hsz]; unfold maxLen; omega, hl.2, fun x hx => by obtain ⟨k, _, h⟩ := hrd x hx; exact ⟨_, h⟩⟩, Nat.le_of_eq hsz, rfl⟩, ?_, ?_⟩
  · show ((es.toList.map (WideElems.rg Try.prog 3 (fun _ => some ((.nil : DataW Unit), [])))).foldr DataW.insert [] |>.map fun p => Go.intOf p.1).Perm _
    refine ((WideShapes.sorted_perm _).map _).trans ?_
    rw [List.map_map, mapL_ents hl, List.map_map]
    refine List.Perm.of_eq (List.map_congr_left fun x hx => ?_)
    obtain ⟨k, ek, h⟩ := hrd x hx
    simp only [Function.comp, WideElems.rg, h, Option.getD_some, Go.intOf, entOf, ek]
  · show ((es.toList.map _).foldr DataW.insert []).length = _
    rw [length_sorted, List.length_map, Array.length_toList, hsz]
theorem sorted_keys (b : Nat) (l : List (Int × Value)) (w : World) {R : Assn} (H : Sat w (mapAt b l * R)) (hn : l.length ≤ 70000) (hr : ∀ x ∈ l, 0 ≤ x.1 ∧ x.1 ≤ 1000000) (n : Nat) (hn5 : 5 ≤ n) (ks : List Int) (hks : ks = (l.map (·.1)).mergeSort Go.leI) :
    CallsIn Fence.wide n Try.prog 163 #[.func (.func 202) #[] #[.pointer (some ⟨w.heap.size, 0, none⟩)]] (w.alloc (.cells #[.map (some b)] 170)) fun e w' =>
      ∃ v, e = .returned v ∧ Sat w' (rowAt 3 v (ks.map fun x => .int .i64 x) * (mapAt b l * R)) ∧ Below w.heap.size w w' := by
  obtain ⟨es, clock, hl, h⟩ := mapAt_open H
  obtain ⟨D, hown, hp, hsz⟩ := keys_own h.block hl hn hr
  refine CallsIn.mono (sorted_of b _ D _ w hown (by rw [hsz]; unfold maxLen; omega) (by rw [hsz]; omega) n hn5) ?_
  rintro e w' ⟨v, ss, rfl, hS, hrow, hb⟩
  have hb' : Below w.heap.size w w' := ((Below.refl _ w).alloc (Nat.le_refl _) _).trans (hb.mono (by simp))
  have e1 : ss.mergeSort Go.leI = ks := by rw [hks]; exact mergeSort_of_perm_i (hS.trans hp)
  refine ⟨v, rfl, ?_, hb'⟩
  have h2 : Sat (w.alloc (.cells #[.map (some b)] 170)) (mapAt b l * R) := H.below ((Below.refl _ w).alloc (Nat.le_refl _) _)
  refine rowAt_made h2 hb (n := ss.length) ?_
  rw [← e1]
  exact hrow
end Go.Proofs.Ytnkikhhiaecebaa

/- A copy of a stock of numbers. -/
namespace Go.Proofs.Ytnkikhhiaecebaa
open Go.RowKit

theorem rowAt_slice {w : World} {T : TypeId} {v : Value} {xs : List Value} {R : Assn} (h : Sat w (rowAt T v xs * R)) : ∃ a n c, v = .slice a n c := by
  rcases rowAt_open h with ⟨rfl, _⟩ | ⟨g, cap, cur, rfl, _⟩
  · exact ⟨_, _, _, rfl⟩
  · exact ⟨_, _, _, rfl⟩

set_option maxHeartbeats 1600000 in
set_option maxRecDepth 20000 in
theorem stk_clone (ps : Nat) (S : Stk) (w : World) {R : Assn} (H : Sat w (stkAt ps S * R)) (hl : S.back.length ≤ 70000) :
    Calls Try.prog 98 #[.pointer (some ⟨ps, 0, none⟩)] w fun e w' => ∃ pc, e = .returned (.pointer (some ⟨pc, 0, none⟩)) ∧ Sat w' (stkAt pc S * (stkAt ps S * R)) ∧ Kept w w' := by
  obtain ⟨⟨pb, v⟩, H1⟩ := H.ex_mul
  simp only [Assn.mul_assoc] at H1
  obtain ⟨MM, hMM⟩ : ∃ MM : Nat → Assn, MM = fun c => mapAt c (S.used.map fun n : Nat => ((n : Int), Value.int .i64 1)) := ⟨_, rfl⟩
  obtain ⟨RR, hRR⟩ : ∃ RR : Value → Assn, RR = fun c => rowAt 3 c (intv S.back) := ⟨_, rfl⟩
  obtain ⟨P0, hP0⟩ : ∃ P0, P0 = own ps (.cells #[.int .i64 65535, .int .i64 S.high, v, .map (some pb)] 272 (0, 0)) := ⟨_, rfl⟩
  have HM : Go.RowKit.Hid (∀ w (R : Assn), Sat w (MM pb * R) → Calls Try.prog 136 #[.map (some pb)] w fun e w' => ∃ c, e = .returned (.map (some c)) ∧ Sat w' (MM c * (MM pb * R)) ∧ Below w.heap.size w w') := by subst hMM; exact fun w R h => maps_clone pb _ w h
  have HR : Go.RowKit.Hid (∀ w (R : Assn), Sat w (RR v * R) → Calls Try.prog 165 #[v] w fun e w' => ∃ a n c, e = .returned (.slice a n c) ∧ Sat w' (RR (.slice a n c) * (RR v * R)) ∧ Below w.heap.size w w') := by
    subst hRR
    intro w R h
    refine (clone_row v S.back w h hl).mono ?_
    rintro e w' ⟨v', rfl, h1, h2⟩
    obtain ⟨a, n, c, rfl⟩ := rowAt_slice h1
    exact ⟨a, n, c, rfl, h1, h2⟩
  have hS : Go.RowKit.Hid (∀ w X, Sat w (P0 * X) → w.cell? ⟨ps, 0, none⟩ = some (.int .i64 65535) ∧ w.cell? ⟨ps, 1, none⟩ = some (.int .i64 S.high) ∧ w.cell? ⟨ps, 2, none⟩ = some v ∧ w.cell? ⟨ps, 3, none⟩ = some (.map (some pb))) := by
    subst hP0
    exact fun w X h => ⟨h.cell 0, h.cell 1, h.cell 2, h.cell 3⟩
  have HH : Go.RowKit.Hid (Sat w (P0 * (MM pb * (RR v * R)))) := by subst hMM hRR hP0; exact H1
  have HF : Go.RowKit.Hid (∀ q c v' w, Sat w (own q (.cells #[.int .i64 65535, .int .i64 S.high, v', .map (some c)] 272 (0, 0)) * (MM c * (RR v' * (P0 * (MM pb * (RR v * R)))))) → Sat w (stkAt q S * (stkAt ps S * R))) := by
    subst hMM hRR hP0
    intro q c v' w h
    refine Sat.mk_ex_mul (c, v') ?_
    refine Sat.cast (P := stkAt ps S * (own q (.cells #[.int .i64 65535, .int .i64 S.high, v', .map (some c)] 272 (0, 0)) * (mapAt c (S.used.map fun n : Nat => ((n : Int), Value.int .i64 1)) * rowAt 3 v' (intv S.back)) * R)) ?_ (by simp only []; ac_rfl)
    refine Sat.mk_ex_mul (pb, v) ?_
    refine h.cast ?_
    simp only []
    ac_rfl
  obtain ⟨c0, c1, c2, c3⟩ := hS.out _ _ HH.out
  clear H H1 hMM hRR hP0
  go_enter Try.func98, Try.ntmps98
  go_wp2_with fail
  go_region_held3 (fun w' => w'.cell? ⟨ps, 0, none⟩ = some (.int .i64 65535) ∧ w'.cell? ⟨ps, 1, none⟩ = some (.int .i64 S.high) ∧ w'.cell? ⟨ps, 2, none⟩ = some v ∧ w'.cell? ⟨ps, 3, none⟩ = some (.map (some pb)))
    (first | go_keep | exact hS.out _ _ (Sat.drew HH.out) | exact hS.out _ _ (hsR2.cast (Q := P0 * (RR (.slice va vn vc) * (RR v * (MM cc * (MM pb * R))))) (by ac_rfl)) | exact hS.out _ _ (hsM2.cast (Q := P0 * (MM cc * (MM pb * (RR (.slice va vn vc) * (RR v * R))))) (by ac_rfl)) | exact hS.out _ _ (hsR.cast (Q := P0 * (RR (.slice va vn vc) * (RR v * (MM pb * R)))) (by ac_rfl)) | exact hS.out _ _ (hsM.cast (Q := P0 * (MM cc * (MM pb * (RR v * R)))) (by ac_rfl)))
    (first
      | (go_at_call 165; first
        | (refine (HR.out w.drew _ (Sat.cast (Q := RR v * (P0 * (MM pb * R))) (Sat.drew HH.out) (by ac_rfl))).mono ?_; rintro e w1 ⟨va, vn, vc, rfl, hsR, hbR⟩)
        | (refine (HR.out _ _ (Sat.cast (Q := RR v * (MM cc * (P0 * (MM pb * R)))) hsM (by ac_rfl))).mono ?_; rintro e w2 ⟨va, vn, vc, rfl, hsR2, hbR⟩))
      | (go_at_call 136; first
        | (refine (HM.out w.drew _ (Sat.cast (Q := MM pb * (P0 * (RR v * R))) (Sat.drew HH.out) (by ac_rfl))).mono ?_; rintro e w1 ⟨cc, rfl, hsM, hbM⟩)
        | (refine (HM.out _ _ (Sat.cast (Q := MM pb * (RR (.slice va vn vc) * (P0 * (RR v * R)))) hsR (by ac_rfl))).mono ?_; rintro e w2 ⟨cc, rfl, hsM2, hbM⟩)))
  all_goals go_wp2
  all_goals go_ret
  all_goals first
    | exact ⟨_, rfl, HF.out _ cc _ _ ((hsM2.alloc _).cast (by ac_rfl)), (((Kept.refl w).drew.below hbR).below hbM).alloc _⟩
    | exact ⟨_, rfl, HF.out _ cc _ _ ((hsR2.alloc _).cast (by ac_rfl)), (((Kept.refl w).drew.below hbM).below hbR).alloc _⟩
end Go.Proofs.Ytnkikhhiaecebaa
