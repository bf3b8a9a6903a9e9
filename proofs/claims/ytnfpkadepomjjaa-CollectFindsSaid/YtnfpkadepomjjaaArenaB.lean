/- Contracts of package arena (layer 3): the words of an address; read, write, swap, add. -/
import Derived.StillTailTactics
import Derived.Deep.RegionWith
import Derived.Test.YtnfpkadepomjjaaArenaA
set_option linter.all false
namespace Go.Proofs.Ytnfpkadepomjjaa
open Go.RowKit

/-- What 'find' sees of an arena: the map of its blocks. -/
structure Sees (w : World) (p : Nat) (A : Ar) : Prop where
  inv : ArInv A
  lt : p < w.heap.size
  look : ∃ pb es clock, w.cell? ⟨p, 15, none⟩ = some (.map (some pb)) ∧ w.heap[pb]? = some (.map es clock) ∧ MapL es clock (A.bs.map ent)

theorem look_ent {bs : List Blk} {n : Nat} : look (bs.map ent) n = (bs.find? fun b => b.n == n).map fun b => .agg #[.int .u64 b.h, b.v] := by
  induction bs with
  | nil => rfl
  | cons b bs ih =>
    simp only [look, List.map_cons, List.find?_cons, ent] at ih ⊢
    by_cases h : b.n = n
    · simp [h]
    · have e1 : ((b.n : Int) == (n : Int)) = false := by simp; omega
      have e2 : (b.n == n) = false := by simpa using h
      rw [e1, e2]; exact ih

theorem find_look {A : Ar} (hi : ArInv A) (h : Nat) : (∃ b, A.find h = some b ∧ b.h = h ∧ look (A.bs.map ent) ((h % 65536 : Nat) : Int) = some (.agg #[.int .u64 h, b.v])) ∨
    (A.find h = none ∧ (look (A.bs.map ent) ((h % 65536 : Nat) : Int) = none ∨ ∃ b : Blk, b.h ≠ h ∧ look (A.bs.map ent) ((h % 65536 : Nat) : Int) = some (.agg #[.int .u64 b.h, b.v]))) := by
  rw [look_ent]
  have hr := hi.range
  have ha := hi.apart
  unfold Ar.find
  generalize A.bs = bs at hr ha
  induction bs with
  | nil => exact .inr ⟨rfl, .inl rfl⟩
  | cons b bs ih =>
    have hb := hr b (by simp)
    simp only [List.find?_cons]
    by_cases e : b.h = h
    · left
      have e1 : (b.n == h % 65536) = true := by simp; omega
      exact ⟨b, by simp [e], e, by rw [e1]; simp [e]⟩
    · have e2 : (b.h == h) = false := by simpa using e
      rw [e2]
      by_cases e3 : b.n = h % 65536
      · right
        refine ⟨?_, .inr ⟨b, e, by simp [e3]⟩⟩
        simp only [List.find?_eq_none]
        intro x hx hxh
        have hxr := hr x (by simp [hx])
        simp only [List.map_cons, List.nodup_cons, List.mem_map] at ha
        refine ha.1 ⟨x, hx, ?_⟩
        have : x.h = h := by simpa using hxh
        omega
      · have e4 : (b.n == h % 65536) = false := by simpa using e3
        rw [e4]
        exact ih (fun x hx => hr x (by simp [hx])) (by simp only [List.map_cons, List.nodup_cons] at ha; exact ha.2)

theorem zero_block : ∀ w, (zeroValue 256).run Try.prog w = .ok (.agg #[.int .u64 0, .slice none 0 0]) w := fun w => by kernel_rfl

set_option maxHeartbeats 800000 in
set_option maxRecDepth 100000 in
theorem find_yes (p h g n c : Nat) (A : Ar) (b : Blk) (w : World) (hs : Sees w p A) (hh : h < TW) (hf : A.find h = some b) (hv : b.v = .slice (some ⟨g, 0, none⟩) n c) :
    Calls Try.prog 149 #[.pointer (some ⟨p, 0, none⟩), .int .u64 h] w fun e w' => e = .returned (.tuple #[.slice (some ⟨g, 0, none⟩) n c, .bool true]) ∧ Below w.heap.size w w' := by
  obtain ⟨pb, es, clock, hc, hm, hl⟩ := hs.look
  have hp := hs.lt
  have hlk : look (A.bs.map ent) ((h % 65536 : Nat) : Int) = some (.agg #[.int .u64 h, b.v]) := by
    rcases find_look hs.inv h with ⟨b', h1, h2, h3⟩ | ⟨h1, _⟩
    · rw [hf] at h1; cases h1; exact h3
    · rw [hf] at h1; cases h1
  rw [hv] at hlk
  have hrun : (Instr.lookup 171 (.map (some pb)) (.int .i64 ((h : Int) % 65536)) true).run Try.prog w.drew = .ok (.tuple #[.agg #[.int .u64 h, .slice (some ⟨g, 0, none⟩) n c], .bool true]) w.drew := by
    have := lookup_ok (P := Try.prog) (w := w.drew) hm hl Try.underlying171 Try.underlying3 (zero_block _) ((h % 65536 : Nat) : Int)
    rw [hlk] at this
    simpa using this
  have hrun2 : (Instr.lookup 171 (.map (some pb)) (.int .i64 ((h : Int) % 65536)) true).run Try.prog (w.alloc (.cells #[.int .u64 0, .slice none 0 0] 256)).drew = .ok (.tuple #[.agg #[.int .u64 h, .slice (some ⟨g, 0, none⟩) n c], .bool true]) (w.alloc (.cells #[.int .u64 0, .slice none 0 0] 256)).drew := by
    have hlt : pb < w.heap.size := heap_lt hm
    have := lookup_ok (P := Try.prog) (w := (w.alloc (.cells #[.int .u64 0, .slice none 0 0] 256)).drew) ((Below.heap_alloc _ _ _ hlt).trans hm) hl Try.underlying171 Try.underlying3 (zero_block _) ((h % 65536 : Nat) : Int)
    rw [hlk] at this
    simpa using this
  have hwr : IntKind.i64.wrap ((h : Int) % 65536) = (h : Int) % 65536 := IntWalk.i64_in _ (by omega)
  clear hlk hl hm hf hs hv
  go_enter Try.func149, Try.ntmps149
  go_wp2
  go_region_with (go_at_call 151; refine (block_any h _ hh).mono ?_; rintro e w' ⟨rfl, rfl⟩)
  all_goals (go_wp2; go_ret2; exact ⟨rfl, ((Below.refl _ _).alloc (Nat.le_refl _) _).drew⟩)

set_option maxHeartbeats 800000 in
theorem at_fixed (p i : Nat) (w : World) (hp : p < w.heap.size) (hi : i < 9) :
    Calls Try.prog 122 #[.pointer (some ⟨p, 0, none⟩), .agg #[.int .u64 0, .int .i64 i]] w fun e w' => e = .returned (.tuple #[.slice (some ⟨p, 5, none⟩) 9 9, .int .i64 0]) ∧ Below w.heap.size w w' := by
  go_enter Try.func122, Try.ntmps122
  go_wp2
  go_ret2
  exact ⟨rfl, (by repeat first | exact Below.refl _ _ | (refine Below.alloc ?_ (by simp) _) | (refine Below.setCell ?_ (by simp) _) | refine below_drewN ?_ _)⟩

set_option maxHeartbeats 800000 in
theorem at_block (p h i g n c : Nat) (A : Ar) (b : Blk) (w : World) (hs : Sees w p A) (hh : h < TW) (h0 : h ≠ 0) (hf : A.find h = some b) (hv : b.v = .slice (some ⟨g, 0, none⟩) n c) (hi : i < n) :
    Calls Try.prog 122 #[.pointer (some ⟨p, 0, none⟩), .agg #[.int .u64 h, .int .i64 i]] w fun e w' => e = .returned (.tuple #[.slice (some ⟨g, 0, none⟩) n c, .int .i64 0]) ∧ Below w.heap.size w w' := by
  have hne : ((h : Int) != 0) = true := by rw [bne_iff_ne]; omega
  have hp := hs.lt
  obtain ⟨pb, es, clock, hc, hm, hl⟩ := hs.look
  have Hs : Hid (Sees (w.alloc (.cells #[.int .u64 h, .int .i64 i] 96)) p A) := by
    refine ⟨hs.inv, by simp; omega, pb, es, clock, ?_, (Below.heap_alloc _ _ _ (heap_lt hm)).trans hm, hl⟩
    rw [World.cell?_alloc_past _ _ _ hp]; exact hc
  have Hf := Lib.hid hf
  have Hv := Lib.hid hv
  clear hs hc hm hl hf hv
  go_enter Try.func122, Try.ntmps122
  go_wp2_with fail
  refine (find_yes p h g n c A b _ Hs.out hh Hf.out Hv.out).mono ?_; rintro e w1 ⟨rfl, hb1⟩
  have e1 := (hb1.cell (p := ⟨w.heap.size, 1, none⟩) (by simp)).trans (show (w.alloc (.cells #[.int .u64 h, .int .i64 i] 96)).cell? ⟨w.heap.size, 1, none⟩ = some (.int .i64 i) by go_simp)
  go_wp2
  go_ret2
  exact ⟨rfl, ((Below.refl _ _).alloc (Nat.le_refl _) _).trans (hb1.mono (by simp))⟩
end Go.Proofs.Ytnfpkadepomjjaa
