/- FieldsBack: the walk. What is put together is taken apart again; roots of unlike handles or turns are unlike. -/
import Derived.Test.YtohijcgbfcahhaaLawFieldsTurns
import Derived.Test.YtohijcgbfcahhaaSem
import Derived.Deep.QuietTactic
import Derived.BigQuiet
import Derived.Deep.DeepCutAuto
import Derived.Deep.Light
namespace Go.Proofs.Ytohijcgbfcahhaa
open Go.RowKit

theorem handleF_yes {a b : Nat} (h : (handleF a b).2 = true) : (1 ≤ a ∧ a ≤ 268435455) ∧ (1 ≤ b ∧ b ≤ 65535) ∧ handleF a b = (a * 65536 + b, true) ∧ rightF (a * 65536 + b) = true := by
  unfold handleF at h
  split at h
  · rename_i hc
    refine ⟨hc.1, hc.2, if_pos hc, ?_⟩
    unfold rightF
    rw [show (a * 65536 + b) / 65536 = a from by omega, show (a * 65536 + b) % 65536 = b from by omega]
    unfold handleF
    rw [if_pos hc]
  · cases h

/-- The two boxed arguments, in a world that is above the call's own. -/
structure Held2 (w wc : World) (a0 a1 b0 b1 : Nat) : Prop where
  below : Below w.heap.size w wc
  c0 : wc.cell? ⟨w.heap.size, 0, none⟩ = some (.int .u64 a0)
  c1 : wc.cell? ⟨w.heap.size, 1, none⟩ = some (.int .u64 a1)
  c2 : wc.cell? ⟨w.heap.size + 1, 0, none⟩ = some (.int .u64 b0)
  c3 : wc.cell? ⟨w.heap.size + 1, 1, none⟩ = some (.int .u64 b1)
theorem Held2.draws {w wc : World} {a0 a1 b0 b1 : Nat} (h : Held2 w wc a0 a1 b0 b1) (n : Nat) : Held2 w (wc.drewN n) a0 a1 b0 b1 :=
  ⟨below_drewN h.below n, h.c0, h.c1, h.c2, h.c3⟩

set_option maxRecDepth 100000 in
theorem fieldsBack_nat (a0 a1 b0 b1 : Nat) (w : World) (ha0 : a0 < TW) (ha1 : a1 < TW) (hb0 : b0 < TW) (hb1 : b1 < TW) :
    Calls Try.prog 5 #[.agg #[.int .u64 a0, .int .u64 a1], .agg #[.int .u64 b0, .int .u64 b1]] w fun e w' => e = .returned (.bool true) ∧ Below w.heap.size w w' := by
  obtain ⟨p, hp⟩ : ∃ p, handleF a0 a1 = p := ⟨_, rfl⟩
  obtain ⟨h, ok⟩ := p
  have Hp := Lib.hid hp
  have H1 : Hid (ok = true → h / 65536 = a0 ∧ h % 65536 = a1 ∧ rightF h = true) := by
    rintro rfl
    obtain ⟨q1, q2, q3, q4⟩ := handleF_yes (a := a0) (b := a1) (by rw [hp])
    rw [hp] at q3; cases q3
    exact ⟨by omega, by omega, q4⟩
  have hh : h < TW := by
    have : h = (handleF a0 a1).1 := by rw [hp]
    rw [this]; unfold handleF TW; split
    · simp only; omega
    · simp
  clear hp
  obtain ⟨pg, hpg⟩ : ∃ p, handleF b0 b1 = p := ⟨_, rfl⟩
  obtain ⟨g, fits⟩ := pg
  have Hg := Lib.hid hpg
  have G1 : Hid (fits = true → g / 65536 = b0 ∧ g % 65536 = b1) := by
    rintro rfl
    obtain ⟨q1, q2, q3, q4⟩ := handleF_yes (a := b0) (b := b1) (by rw [hpg])
    rw [hpg] at q3; cases q3
    exact ⟨by omega, by omega⟩
  have hgg : g < TW := by
    have : g = (handleF b0 b1).1 := by rw [hpg]
    rw [this]; unfold handleF TW; split
    · simp only; omega
    · simp
  clear hpg
  obtain ⟨pr, hpr⟩ : ∃ p, rootF h b0 = p := ⟨_, rfl⟩
  obtain ⟨r, is⟩ := pr
  have Hr := Lib.hid hpr
  have R1 : Hid (is = true → r / 1048576 = h ∧ r % 1048576 = b0) := by
    rintro rfl
    obtain ⟨q1, q2, q3, _⟩ := rootF_yes (h := h) (t := b0) (by rw [hpr])
    rw [hpr] at q3; cases q3
    exact ⟨by omega, by omega⟩
  have hrr : r < TW := by
    cases is
    · have := rootF_no (h := h) (t := b0) (by rw [hpr]); rw [hpr] at this; cases this; unfold TW; omega
    · obtain ⟨q1, q2, q3, _⟩ := rootF_yes (h := h) (t := b0) (by rw [hpr])
      rw [hpr] at q3; cases q3; unfold TW; omega
  clear hpr
  obtain ⟨ps, hps⟩ : ∃ p, rootF g a0 = p := ⟨_, rfl⟩
  obtain ⟨s, may⟩ := ps
  have Hs := Lib.hid hps
  have S1 : Hid (may = true → s / 1048576 = g ∧ s % 1048576 = a0) := by
    rintro rfl
    obtain ⟨q1, q2, q3, _⟩ := rootF_yes (h := g) (t := a0) (by rw [hps])
    rw [hps] at q3; cases q3
    exact ⟨by omega, by omega⟩
  clear hps
  obtain ⟨pn, hpn⟩ : ∃ p, noteF a0 a1 = p := ⟨_, rfl⟩
  obtain ⟨nt, can⟩ := pn
  have Hn := Lib.hid hpn
  have N1 : Hid (can = true → nt / 4294967296 = a0 ∧ nt % 4294967296 = a1) := by
    rintro rfl
    unfold noteF at hpn
    split at hpn
    · cases hpn
    · cases hpn; exact ⟨by omega, by omega⟩
  have hnt : nt < TW := by
    have : nt = (noteF a0 a1).1 := by rw [hpn]
    rw [this]; unfold noteF TW; split
    · simp
    · simp only; omega
  clear hpn
  go_enter Try.func5, Try.ntmps5
  go_wp2_with fail
  refine (first01 _).mono ?_; rintro e w' ⟨rfl, rfl⟩
  go_wp2_with fail
  refine (handle_any a0 a1 _).mono ?_; rintro e w' ⟨rfl, rfl⟩
  rw [Hp.out]
  have hheld : Held2 w ((w.alloc (.cells #[.int .u64 a0, .int .u64 a1] 31)).alloc (.cells #[.int .u64 b0, .int .u64 b1] 31)) a0 a1 b0 b1 :=
    ⟨((Below.refl _ _).alloc (Nat.le_refl _) _).alloc (by simp) _, by go_simp, by go_simp, by go_simp, by go_simp⟩
  have HH := Lib.hid hheld; clear hheld
  go_upto_region 4 with fail
  go_cut [44] (fun s wc => s = .bool false ∧ Held2 w wc a0 a1 b0 b1)
  case first =>
    cases ok
    · go_quiet (fail)
      go_wp2_with fail
      go_meet
      case rel => exact ⟨rfl, HH.out.draws _⟩
    · obtain ⟨e1, e2, e3⟩ := H1.out rfl
      have B1 : Hid (∀ w, Calls Try.prog 21 #[.int .u64 h] w fun e w' => e = .returned (.int .u64 a0) ∧ w = w') := fun w => (birth_any h w).mono (by rw [e1]; exact fun _ _ h => h)
      have B2 : Hid (∀ w, Calls Try.prog 20 #[.int .u64 h] w fun e w' => e = .returned (.int .u64 a1) ∧ w = w') := fun w => (block_any h w hh).mono (by rw [e2]; exact fun _ _ h => h)
      have B3 : Hid (∀ w, Calls Try.prog 17 #[.int .u64 h] w fun e w' => e = .returned (.bool true) ∧ w = w') := fun w => (right_any h w hh).mono (by rw [e3]; exact fun _ _ h => h)
      clear e1 e2 e3
      go_quiet (first | (go_at_call 21; exact quiet_eq (B1.out _)) | (go_at_call 20; exact quiet_eq (B2.out _)) | (go_at_call 17; exact quiet_eq (B3.out _)))
      go_wp2_with fail
      go_meet
      case rel => exact ⟨rfl, HH.out.draws _⟩
  case rest =>
    clear HH
    obtain ⟨rfl, hheld⟩ := hcut
    obtain ⟨hb, hc0, hc1, hc2, hc3⟩ := id hheld
    have HH := Lib.hid hheld; clear hheld hb
    go_wp2_with fail
    refine (handle_any b0 b1 _).mono ?_; rintro e w' ⟨rfl, rfl⟩
    rw [Hg.out]
    go_upto_region 7 with fail
    go_cut [65] (fun s wc => s = .bool false ∧ Held2 w wc a0 a1 b0 b1)
    case first =>
      cases ok
      · go_wp2_with fail
        go_meet
        case rel => exact ⟨rfl, HH.out⟩
      · cases fits
        · go_wp2_with fail
          go_meet
          case rel => exact ⟨rfl, HH.out⟩
        · obtain ⟨e1, e2, _⟩ := H1.out rfl
          obtain ⟨e3, e4⟩ := G1.out rfl
          have ex : ((a0 : Int) == (b0 : Int) && (a1 : Int) == (b1 : Int)) = ((h : Int) == (g : Int)) := by
            rw [Bool.eq_iff_iff]; simp; omega
          have heq : ∀ w, (Op.equalIn 10000 31 (.agg #[.int .u64 a0, .int .u64 a1]) (.agg #[.int .u64 b0, .int .u64 b1])).run Try.prog w = .ok ((h : Int) == (g : Int)) w := fun w => by
            rw [run_equalIn_arr2 (P := Try.prog) w 9999 31 22 .u64 _ _ _ _ Try.underlying31 (fun a b w => run_equalIn_int w 9998 22 .u64 .u64 a b Try.underlying22) (fun w => by kernel_rfl) (fun w => by kernel_rfl), ex]
          clear e1 e2 e3 e4 ex
          go_wp2_with fail
          go_meet
          case rel => exact ⟨rfl, HH.out⟩
    case rest =>
      clear HH
      obtain ⟨rfl, hheld⟩ := hcut
      obtain ⟨hb, hc0, hc1, hc2, hc3⟩ := id hheld
      have HH := Lib.hid hheld; clear hheld hb
      go_wp2_with fail
      refine (root_any h b0 _ hh).mono ?_; rintro e w' ⟨rfl, rfl⟩
      rw [Hr.out]
      go_wp2_with fail
      refine (root_any g a0 _ hgg).mono ?_; rintro e w' ⟨rfl, rfl⟩
      rw [Hs.out]
      go_upto_region 11 with fail
      go_cut [115] (fun s wc => s = .bool false ∧ Held2 w wc a0 a1 b0 b1)
      case first =>
        cases is
        · go_quiet (fail)
          go_wp2_with fail
          go_meet
          case rel => exact ⟨rfl, HH.out.draws _⟩
        · obtain ⟨e1, e2⟩ := R1.out rfl
          have B1 : Hid (∀ w, Calls Try.prog 23 #[.int .u64 r] w fun e w' => e = .returned (.int .u64 h) ∧ w = w') := fun w => (top_any r w).mono (by rw [e1]; exact fun _ _ h => h)
          have B2 : Hid (∀ w, Calls Try.prog 22 #[.int .u64 r] w fun e w' => e = .returned (.int .u64 b0) ∧ w = w') := fun w => (turn_any r w hrr).mono (by rw [e2]; exact fun _ _ h => h)
          cases may
          · clear e1 e2
            go_quiet (first | (go_at_call 23; exact quiet_eq (B1.out _)) | (go_at_call 22; exact quiet_eq (B2.out _)))
            go_wp2_with fail
            go_meet
            case rel => exact ⟨rfl, HH.out.draws _⟩
          · obtain ⟨e3, e4⟩ := S1.out rfl
            by_cases hgh : h = g
            · subst hgh
              by_cases hab : a0 = b0
              · have ex : r = s := by omega
                subst ex
                subst hab
                clear e1 e2 e3 e4
                go_quiet (first | (go_at_call 23; exact quiet_eq (B1.out _)) | (go_at_call 22; exact quiet_eq (B2.out _)))
                go_wp2_with fail
                go_meet
                case rel => exact ⟨rfl, HH.out.draws _⟩
              · have ex : ((r : Int) == (s : Int)) = false := by simp; omega
                have ey : ((a0 : Int) == (b0 : Int)) = false := by simp; omega
                clear e1 e2 e3 e4
                go_quiet (first | (go_at_call 23; exact quiet_eq (B1.out _)) | (go_at_call 22; exact quiet_eq (B2.out _)))
                go_wp2_with fail
                go_meet
                case rel => exact ⟨rfl, HH.out.draws _⟩
            · have ex : ((r : Int) == (s : Int)) = false := by simp; omega
              have ey : ((h : Int) == (g : Int)) = false := by simp; omega
              clear e1 e2 e3 e4
              go_quiet (first | (go_at_call 23; exact quiet_eq (B1.out _)) | (go_at_call 22; exact quiet_eq (B2.out _)))
              go_wp2_with fail
              go_meet
              case rel => exact ⟨rfl, HH.out.draws _⟩
      case rest =>
        clear HH
        obtain ⟨rfl, hheld⟩ := hcut
        obtain ⟨hb, hc0, hc1, hc2, hc3⟩ := id hheld
        have HH := Lib.hid hheld; clear hheld hb
        go_wp2_with fail
        refine (note_any a0 a1 _).mono ?_; rintro e w' ⟨rfl, rfl⟩
        rw [Hn.out]
        go_upto_region 14 with fail
        cases can
        · go_quiet (fail)
          go_wp2
          go_ret
          exact ⟨rfl, (HH.out.draws _).below⟩
        · obtain ⟨e1, e2⟩ := N1.out rfl
          have B1 : Hid (∀ w, Calls Try.prog 25 #[.int .u64 nt] w fun e w' => e = .returned (.int .u64 a0) ∧ w = w') := fun w => (seq_any nt w).mono (by rw [e1]; exact fun _ _ h => h)
          have B2 : Hid (∀ w, Calls Try.prog 24 #[.int .u64 nt] w fun e w' => e = .returned (.int .u64 a1) ∧ w = w') := fun w => (body_any nt w hnt).mono (by rw [e2]; exact fun _ _ h => h)
          clear e1 e2
          go_quiet (first | (go_at_call 25; exact quiet_eq (B1.out _)) | (go_at_call 24; exact quiet_eq (B2.out _)))
          go_wp2
          go_ret
          exact ⟨rfl, (HH.out.draws _).below⟩
end Go.Proofs.Ytohijcgbfcahhaa
