/- Contracts of dir.Path and of the document's Path: a row of the call's own. -/
import Derived.Laws.AppendOwn
import Derived.Laws.OwnMore
import Derived.Test.YtnfpkadepomjjaaDirB
import Derived.Test.YtnfpkadepomjjaaSem
set_option linter.all false
namespace Go.Proofs.Ytnfpkadepomjjaa
open Go.RowKit

theorem info_int : (Try.prog.info? 3).map (fun i => (i.zero, i.size, i.bytes)) = some (some (.int .i64 0), 1, 8) := by kernel_rfl

theorem path_no (s : Int) (w : World) (h : s < 0 ∨ 255 ≤ s) :
    Calls Try.prog 165 #[.int .i64 s] w fun e w' => e = .returned (.slice none 0 0) ∧ w = w' := by
  go_enter Try.func165, Try.ntmps165
  go_wp2_with fail
  refine (segment_no s _ h).mono ?_; rintro e w' ⟨rfl, rfl⟩
  go_wp2
  go_ret
  exact ⟨rfl, rfl⟩

set_option maxHeartbeats 400000 in
theorem path_yes (s : Nat) (w : World) (h : s ≤ 254) :
    Calls Try.prog 165 #[.int .i64 s] w fun e w' => ∃ v, e = .returned v ∧ w'.ownsRow w.heap.size 3 1 v (segG s + 1) (ints (pathOf s)) ∧ Below w.heap.size w w' := by
  obtain ⟨i0, hi, hz0, hz1, hz2⟩ := info_parts info_int
  obtain ⟨f1, f2, f3⟩ := seg_facts h
  obtain ⟨p1, p2⟩ := pow_int (k := segG s) (by omega)
  have Ho : Hid ((2 : Int) ^ segG s + (segO s : Int) = (s : Int) + 1) := by
    show _ = _
    have := pow_cast (segG s); unfold segO; omega
  have ho : segO s ≤ 255 := Nat.le_trans (Nat.sub_le _ _) (by omega)
  clear f2 f3
  go_enter Try.func165, Try.ntmps165
  go_wp2_with fail
  refine (segment_yes s _ h).mono ?_; rintro e w' ⟨rfl, n, rfl⟩
  go_wp2
  rw [Ho.out]
  go_loopw [6, 7] (fun v nd wr => ∃ k : Nat, k ≤ segG s + 1 ∧ nd = .int .i64 ((s + 1) / 2 ^ k : Nat) ∧ wr.ownsRow w.heap.size 3 1 v k (ints (pathF s k)) ∧ Below w.heap.size w wr)
    (fun _ nd _ => (intOf nd).toNat)
  case atStart => exact ⟨0, Nat.zero_le _, by simp, World.ownsRow_nil _ _ _ _, below_drewN (Below.refl _ _) _⟩
  case round =>
    obtain ⟨k, hk, rfl, hown, hbel⟩ := hrel
    have hs := Lib.hid (pathF_succ s k)
    have hh := Lib.hid (path_half s k)
    have hz : Hid ((s + 1) / 2 ^ k = 0 → k = segG s + 1) := fun h => by have := path_zero h; omega
    have hp : Hid (0 < (s + 1) / 2 ^ k → k ≤ segG s) := path_pos
    have hle : (s + 1) / 2 ^ k ≤ 255 := Nat.le_trans (Nat.div_le_self _ _) (by omega)
    generalize (s + 1) / 2 ^ k = m at *
    by_cases hm : 0 < m
    · have hk1 := hp.out hm
      go_wp2_with (at_builtin; refine wpList_append_own _ rfl _ _ 89 rfl w.heap.size 3 i0 (.int .i64 0) 1 8 Try.underlying89 hi hz0 hz1 hz2 rfl (by decide) _ _ _ rfl (hown.alloc _) ⟨wr.heap.size, 0, none⟩ 1 1 [.int .i64 m] rfl rfl ?c1 ?c2 ?c3 ?c4 ?c5 ?_)
      case c1 =>
        intro j u hj
        match j, hj with
        | 0, hj => simp at hj; subst hj; simp [Addr.add]
      case c2 => intro u hu; simp at hu; subst hu; rfl
      case c3 => unfold maxLen; omega
      case c4 => omega
      case c5 => have := hbel.size; simp; omega
      intro v' w1 hown' hgrow _
      have hb1 := ((hbel.alloc hbel.size (.cells #[.int .i64 m] 3)).grown hgrow (by have := hbel.size; simp; omega) (own_base hown))
      go_wp2
      go_roundw
      case rel => exact ⟨k + 1, by omega, by rw [hh.out]; simp, by rw [hs.out]; simpa [ints] using hown', hb1⟩
      case measure => simp [intOf]; omega
    · go_wp2
      go_ret
      obtain rfl : k = segG s + 1 := hz.out (by omega)
      exact ⟨_, rfl, hown, hbel⟩
end Go.Proofs.Ytnfpkadepomjjaa
