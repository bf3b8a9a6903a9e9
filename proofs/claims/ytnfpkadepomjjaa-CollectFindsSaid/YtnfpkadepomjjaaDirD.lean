/- Contracts of the document's Segment, Word, Path (layer 10). -/
import Derived.Deep.AppendLies
import Derived.Test.YtnfpkadepomjjaaDirC
set_option linter.all false
namespace Go.Proofs.Ytnfpkadepomjjaa
open Go.RowKit

theorem ref_segment (s : Nat) (w : World) (h : s ≤ 254) :
    Calls Try.prog 95 #[.int .i64 s] w fun e w' => e = .returned (.tuple #[.int .i64 (segG s), .int .i64 (segO s)]) ∧ w = w' := by
  obtain ⟨f1, f2, f3⟩ := seg_facts h
  have Hz : Hid ((s : Int) + 1 - 2 ^ segG s = (segO s : Int)) := by
    show _ = _
    have := pow_cast (segG s); unfold segO; omega
  go_enter Try.func95, Try.ntmps95
  go_wp2
  go_loop [0, 4] (fun a i => ∃ k : Nat, k ≤ segG s ∧ i = .int .i64 k ∧ a = .int .i64 ((s : Int) + 1 - 2 ^ k)) (fun _ i => segG s - (intOf i).toNat)
  case atStart => exact ⟨0, Nat.zero_le _, rfl, by simp⟩
  case round =>
    obtain ⟨k, hk, rfl, rfl⟩ := hrel
    obtain ⟨p1, p2⟩ := pow_int (k := k) (by omega)
    have Hc := Lib.hid (pow_cast k)
    by_cases hlt : k < segG s
    · have hm : 2 * (2 : Int) ^ k ≤ (s : Int) + 1 := by rw [pow_cast]; have := seg_more hlt; omega
      clear f2 f3
      go_wp2_with fail
      refine (pow_any k _ (by omega)).mono ?_; rintro e w' ⟨rfl, rfl⟩
      rw [← Hc.out]
      go_wp2_with fail
      refine (pow_any k _ (by omega)).mono ?_; rintro e w' ⟨rfl, rfl⟩
      rw [← Hc.out]
      go_wp2
      go_round
      case rel => exact ⟨k + 1, by omega, by go_num, by rw [Int.pow_succ]; go_num⟩
      case measure => simp [intOf]; omega
    · have hm : (s : Int) + 1 < 2 * (2 : Int) ^ k := seg_less h (by omega)
      obtain rfl : k = segG s := by omega
      clear f2 f3
      go_wp2_with fail
      refine (pow_any (segG s) _ (by omega)).mono ?_; rintro e w' ⟨rfl, rfl⟩
      rw [← Hc.out]
      go_wp2
      go_ret2
      exact ⟨by rw [← Hz.out]; rfl, rfl⟩

theorem ref_word (sg s f : Nat) (w : World) (h : s ≤ 254) (hf : f ≤ 4) :
    Calls Try.prog 46 #[.agg #[.int .u64 sg, .int .i64 s], .int .i64 f] w fun e w' => e = .returned (.agg #[.int .u64 sg, .int .i64 (5 * segO s + f : Nat)]) ∧ Below w.heap.size w w' := by
  have ho : segO s ≤ 255 := Nat.le_trans (Nat.sub_le _ _) (by omega)
  go_enter Try.func46, Try.ntmps46
  go_wp2_with fail
  refine (ref_segment s _ h).mono ?_; rintro e w' ⟨rfl, rfl⟩
  go_wp2
  exact bodyPost_ret (v := .agg #[.int .u64 sg, .int .i64 (5 * segO s + f)]) (by simp [results, Try.results46, go_sem]) rfl ⟨by simp, (by repeat first | exact Below.refl _ _ | (refine Below.alloc ?_ (by simp) _) | (refine Below.setCell ?_ (by simp) _) | refine below_drewN ?_ _)⟩

end Go.Proofs.Ytnfpkadepomjjaa