/- Segments(1): the run of it, by the executor. -/
import Derived.Test.YtgiakcepgbpchaaSegs
namespace Go.Proofs.Ytgiakcepgbpchaa
open Go Go.RowKit
set_option maxRecDepth 1000000
set_option maxHeartbeats 0
theorem seg_vc1 : (callN Try.prog tblS (fun _ _ => false) 100 20 16 [.c (.int true .i64 1)] ⟨[], 0⟩ .nil (fun v m _ => segPost 1 v m)) = (
    ((0 : Int) ≤ (60000 : Int) ∧ (60000 : Int) ≤ (60000 : Int)) ∧ (7 : Nat) = (7 : Nat) ∧ (7 : Nat) = (7 : Nat) ∧ ((1 : Nat) ≤ (7 : Nat) ∧ (7 : Nat) ≤ (2048 : Nat)) ∧ (7 : Nat) ≤ (60000
    : Nat) ∧ ([] : List Nat) = [] ∧ (0 : Nat) < (268435455 : Nat) ∧ True ∧ ∀ (v : Value), (True ∧ True ∧ True ∧ (7 : Nat) ≤ (1000000000 : Nat) ∧ ∀ (cap : Nat), (7 : Nat) ≤ cap → True ∧
    True ∧ (1 : Nat) ≤ (1000000000 : Nat) ∧ ∀ (cap_1 : Nat), (1 : Nat) ≤ cap_1 → cap_1 = cap_1 ∧ ((Ar.new (60000 : Nat)).lay [(0 : Nat), (0 : Nat), (0 : Nat), (0 : Nat), (0 : Nat), (0 :
    Nat), (0 : Nat)] v).Has (0 : Int) (1 : Int) ∧ ((0 : Int) ≤ (65537 : Int) ∧ (65537 : Int) < (18446744073709551616 : Int)) ∧ (cap_1 = cap_1 ∧ (0 : Nat) = (0 : Nat) ∧ cap = cap ∧ (0 :
    Nat) = (0 : Nat) ∧ cap_1 = cap_1 ∧ True ∧ True ∧ (1 : Nat) ≤ (1000000000 : Nat) ∧ ∀ (cap : Nat), (1 : Nat) ≤ cap → (isM [SC.int true IntKind.i64 (Int.ofNat ((59999 : Nat) + (1 :
    Nat))) Bd.any, SC.int true IntKind.i64 (Int.ofNat ((0 : Nat) + (1 : Nat))), SC.int true IntKind.i64 (Int.ofNat ((6 : Nat) + (1 : Nat))), SC.int true IntKind.i64 (Int.ofNat (0 :
    Nat)) Bd.any, SC.int true IntKind.u64 (Int.ofNat (0 : Nat)) Bd.any, SC.int true IntKind.u64 (Int.ofNat ((65536 : Nat) + (1 : Nat))) Bd.any, SC.int true IntKind.u64 (Int.ofNat (0 :
    Nat)) Bd.any, SC.int true IntKind.u64 (Int.ofNat (0 : Nat)) Bd.any, SC.int true IntKind.u64 (Int.ofNat (0 : Nat)) Bd.any, SC.int true IntKind.u64 (Int.ofNat (0 : Nat)) Bd.any,
    SC.int true IntKind.u64 (Int.ofNat (0 : Nat)) Bd.any, SC.int true IntKind.u64 (Int.ofNat (0 : Nat)) Bd.any, SC.int true IntKind.u64 (Int.ofNat (0 : Nat)) Bd.any, SC.sli (136 : Nat)
    (2 : Nat) true (0 : Nat) true (1 : Nat) cap_1, SC.int true IntKind.i64 (Int.ofNat ((0 : Nat) + (1 : Nat))), SC.int true IntKind.i64 (Int.ofNat (0 : Nat)) Bd.any, SC.int true
    IntKind.i64 (Int.ofNat (0 : Nat)) Bd.any, SC.int true IntKind.i64 (Int.ofNat ((0 : Nat) + (1 : Nat))), SC.int true IntKind.i64 (Int.ofNat (0 : Nat)) Bd.any, SC.int true IntKind.i64
    (Int.ofNat (0 : Nat)) Bd.any] = true ∧ (1 : Nat) = (1 : Nat) ∧ SegOk (1 : Nat) (((Ar.new (60000 : Nat)).lay [(0 : Nat), (0 : Nat), (0 : Nat), (0 : Nat), (0 : Nat), (0 : Nat), (0 :
    Nat)] v).write (0 : Int) (1 : Int) (65537 : Int)) ∧ (1 : Nat) = (1 : Nat) ∧ cap = cap ∧ (65537 : Int) = (65537 : Int) ∧ True) ∧ True) ∧ True) ∧ True) := by
  kernel_rfl
theorem seg_run1 : callN Try.prog tblS (fun _ _ => false) 100 20 16 [.c (.int true .i64 1)] ⟨[], 0⟩ .nil (fun v m _ => segPost 1 v m) := by
  rw [seg_vc1]
  repeat' first
    | with_reducible apply And.intro
    | with_reducible exact trivial
    | intro _
    | with_reducible exact Eq.refl _
  all_goals first
    | omega
    | (unfold Ar.Has; exact ⟨by omega, by omega, by omega, rfl⟩)
    | exact Nat.le_of_ble_eq_true rfl
    | exact (SegOk.more SegOk.new _ rfl rfl rfl)
    | rfl
    | (simp_all; done)
end Go.Proofs.Ytgiakcepgbpchaa
