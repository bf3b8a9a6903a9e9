/- Segments(3): the run of it, by the executor. -/
import Derived.Test.YtgiakcepgbpchaaSegs
namespace Go.Proofs.Ytgiakcepgbpchaa
open Go Go.RowKit
set_option maxRecDepth 1000000
set_option maxHeartbeats 0
theorem seg_vc3 : (callN Try.prog tblS (fun _ _ => false) 100 20 16 [.c (.int true .i64 3)] ⟨[], 0⟩ .nil (fun v m _ => segPost 3 v m)) = (
    ((0 : Int) ≤ (60000 : Int) ∧ (60000 : Int) ≤ (60000 : Int)) ∧ (7 : Nat) = (7 : Nat) ∧ (7 : Nat) = (7 : Nat) ∧ ((1 : Nat) ≤ (7 : Nat) ∧ (7 : Nat) ≤ (2048 : Nat)) ∧ (7 : Nat) ≤ (60000
    : Nat) ∧ ([] : List Nat) = [] ∧ (0 : Nat) < (268435455 : Nat) ∧ True ∧ ∀ (v : Value), (True ∧ True ∧ True ∧ (7 : Nat) ≤ (1000000000 : Nat) ∧ ∀ (cap : Nat), (7 : Nat) ≤ cap → True ∧
    True ∧ (1 : Nat) ≤ (1000000000 : Nat) ∧ ∀ (cap_1 : Nat), (1 : Nat) ≤ cap_1 → cap_1 = cap_1 ∧ ((Ar.new (60000 : Nat)).lay [(0 : Nat), (0 : Nat), (0 : Nat), (0 : Nat), (0 : Nat), (0 :
    Nat), (0 : Nat)] v).Has (0 : Int) (1 : Int) ∧ ((0 : Int) ≤ (65537 : Int) ∧ (65537 : Int) < (18446744073709551616 : Int)) ∧ (cap_1 = cap_1 ∧ (0 : Nat) = (0 : Nat) ∧ cap = cap ∧ (0 :
    Nat) = (0 : Nat) ∧ cap_1 = cap_1 ∧ True ∧ True ∧ (1 : Nat) ≤ (1000000000 : Nat) ∧ ∀ (cap_2 : Nat), (1 : Nat) ≤ cap_2 → (14 : Nat) = (14 : Nat) ∧ (14 : Nat) = (14 : Nat) ∧ ((1 : Nat)
    ≤ (14 : Nat) ∧ (14 : Nat) ≤ (2048 : Nat)) ∧ (((Ar.new (Int.toNat (60000 : Int))).lay (List.replicate 7 0) v).write (0 : Int) (1 : Int) (65537 : Int)).used + (14 : Nat) ≤ (((Ar.new
    (Int.toNat (60000 : Int))).lay (List.replicate 7 0) v).write (0 : Int) (1 : Int) (65537 : Int)).cap ∧ ([] : List Nat) = [] ∧ (((Ar.new (Int.toNat (60000 : Int))).lay (List.replicate
    7 0) v).write (0 : Int) (1 : Int) (65537 : Int)).births < (268435455 : Nat) ∧ True ∧ ∀ (v_1 : Value), (cap_1 = cap_1 ∧ (0 : Nat) = (0 : Nat) ∧ cap = cap ∧ (0 : Nat) = (0 : Nat) ∧
    cap_1 = cap_1 ∧ ((0 : Int) ≤ (1 : Int) ∧ (1 : Int) ≤ (↑cap_1 : Int)) ∧ True ∧ True ∧ (1 : Nat) ≤ (1000000000 : Nat) ∧ ∀ (cap_3 : Nat), (1 : Nat) ≤ cap_3 → True ∧ True ∧ (14 : Nat) ≤
    (1000000000 : Nat) ∧ ∀ (cap_4 : Nat), (14 : Nat) ≤ cap_4 → cap_3 = cap_3 ∧ True ∧ (2 : Nat) ≤ (1000000000 : Nat) ∧ ∀ (cap_5 : Nat), (2 : Nat) ≤ cap_5 → cap_5 = cap_5 ∧ True ∧ (2 :
    Nat) ≤ (1000000000 : Nat) ∧ ∀ (cap_6 : Nat), (2 : Nat) ≤ cap_6 → ((((Ar.new (60000 : Nat)).lay [(0 : Nat), (0 : Nat), (0 : Nat), (0 : Nat), (0 : Nat), (0 : Nat), (0 : Nat)] v).write
    (0 : Int) (1 : Int) (65537 : Int)).lay [(0 : Nat), (0 : Nat), (0 : Nat), (0 : Nat), (0 : Nat), (0 : Nat), (0 : Nat), (0 : Nat), (0 : Nat), (0 : Nat), (0 : Nat), (0 : Nat), (0 :
    Nat), (0 : Nat)] v_1).Has (0 : Int) (2 : Int) ∧ ((0 : Int) ≤ (131074 : Int) ∧ (131074 : Int) < (18446744073709551616 : Int)) ∧ (cap_6 = cap_6 ∧ (0 : Nat) = (0 : Nat) ∧ cap = cap ∧
    (0 : Nat) = (0 : Nat) ∧ cap_4 = cap_4 ∧ (0 : Nat) = (0 : Nat) ∧ cap_6 = cap_6 ∧ cap_2 = cap_2 ∧ True ∧ (2 : Nat) ≤ (1000000000 : Nat) ∧ ∀ (cap_7 : Nat), (2 : Nat) ≤ cap_7 → (28 :
    Nat) = (28 : Nat) ∧ (28 : Nat) = (28 : Nat) ∧ ((1 : Nat) ≤ (28 : Nat) ∧ (28 : Nat) ≤ (2048 : Nat)) ∧ (((((Ar.new (Int.toNat (60000 : Int))).lay (List.replicate 7 0) v).write (0 :
    Int) (1 : Int) (65537 : Int)).lay (List.replicate 14 0) v_1).write (0 : Int) (2 : Int) (131074 : Int)).used + (28 : Nat) ≤ (((((Ar.new (Int.toNat (60000 : Int))).lay (List.replicate
    7 0) v).write (0 : Int) (1 : Int) (65537 : Int)).lay (List.replicate 14 0) v_1).write (0 : Int) (2 : Int) (131074 : Int)).cap ∧ ([] : List Nat) = [] ∧ (((((Ar.new (Int.toNat (60000
    : Int))).lay (List.replicate 7 0) v).write (0 : Int) (1 : Int) (65537 : Int)).lay (List.replicate 14 0) v_1).write (0 : Int) (2 : Int) (131074 : Int)).births < (268435455 : Nat) ∧
    True ∧ ∀ (v_2 : Value), (cap_6 = cap_6 ∧ (0 : Nat) = (0 : Nat) ∧ cap = cap ∧ (0 : Nat) = (0 : Nat) ∧ cap_4 = cap_4 ∧ (0 : Nat) = (0 : Nat) ∧ cap_6 = cap_6 ∧ ((0 : Int) ≤ (2 : Int) ∧
    (2 : Int) ≤ (↑cap_6 : Int)) ∧ True ∧ True ∧ (2 : Nat) ≤ (1000000000 : Nat) ∧ ∀ (cap_8 : Nat), (2 : Nat) ≤ cap_8 → True ∧ True ∧ (28 : Nat) ≤ (1000000000 : Nat) ∧ ∀ (cap_9 : Nat),
    (28 : Nat) ≤ cap_9 → cap_8 = cap_8 ∧ True ∧ (3 : Nat) ≤ (1000000000 : Nat) ∧ ∀ (cap_10 : Nat), (3 : Nat) ≤ cap_10 → cap_10 = cap_10 ∧ True ∧ (3 : Nat) ≤ (1000000000 : Nat) ∧ ∀
    (cap_11 : Nat), (3 : Nat) ≤ cap_11 → ((((((Ar.new (60000 : Nat)).lay [(0 : Nat), (0 : Nat), (0 : Nat), (0 : Nat), (0 : Nat), (0 : Nat), (0 : Nat)] v).write (0 : Int) (1 : Int)
    (65537 : Int)).lay [(0 : Nat), (0 : Nat), (0 : Nat), (0 : Nat), (0 : Nat), (0 : Nat), (0 : Nat), (0 : Nat), (0 : Nat), (0 : Nat), (0 : Nat), (0 : Nat), (0 : Nat), (0 : Nat)]
    v_1).write (0 : Int) (2 : Int) (131074 : Int)).lay [(0 : Nat), (0 : Nat), (0 : Nat), (0 : Nat), (0 : Nat), (0 : Nat), (0 : Nat), (0 : Nat), (0 : Nat), (0 : Nat), (0 : Nat), (0 :
    Nat), (0 : Nat), (0 : Nat), (0 : Nat), (0 : Nat), (0 : Nat), (0 : Nat), (0 : Nat), (0 : Nat), (0 : Nat), (0 : Nat), (0 : Nat), (0 : Nat), (0 : Nat), (0 : Nat), (0 : Nat), (0 : Nat)]
    v_2).Has (0 : Int) (3 : Int) ∧ ((0 : Int) ≤ (196611 : Int) ∧ (196611 : Int) < (18446744073709551616 : Int)) ∧ (cap_11 = cap_11 ∧ (0 : Nat) = (0 : Nat) ∧ cap = cap ∧ (0 : Nat) = (0 :
    Nat) ∧ cap_4 = cap_4 ∧ (0 : Nat) = (0 : Nat) ∧ cap_9 = cap_9 ∧ (0 : Nat) = (0 : Nat) ∧ cap_11 = cap_11 ∧ cap_7 = cap_7 ∧ True ∧ (3 : Nat) ≤ (1000000000 : Nat) ∧ ∀ (cap : Nat), (3 :
    Nat) ≤ cap → (isM [SC.int true IntKind.i64 (Int.ofNat ((59999 : Nat) + (1 : Nat))) Bd.any, SC.int true IntKind.i64 (Int.ofNat ((2 : Nat) + (1 : Nat))), SC.int true IntKind.i64
    (Int.ofNat ((48 : Nat) + (1 : Nat))), SC.int true IntKind.i64 (Int.ofNat (0 : Nat)) Bd.any, SC.int true IntKind.u64 (Int.ofNat (0 : Nat)) Bd.any, SC.int true IntKind.u64 (Int.ofNat
    ((65536 : Nat) + (1 : Nat))) Bd.any, SC.int true IntKind.u64 (131074 : Int) Bd.any, SC.int true IntKind.u64 (196611 : Int) Bd.any, SC.int true IntKind.u64 (Int.ofNat (0 : Nat))
    Bd.any, SC.int true IntKind.u64 (Int.ofNat (0 : Nat)) Bd.any, SC.int true IntKind.u64 (Int.ofNat (0 : Nat)) Bd.any, SC.int true IntKind.u64 (Int.ofNat (0 : Nat)) Bd.any, SC.int true
    IntKind.u64 (Int.ofNat (0 : Nat)) Bd.any, SC.sli (802 : Nat) (2 : Nat) true (0 : Nat) true (3 : Nat) cap_11, SC.int true IntKind.i64 (Int.ofNat ((2 : Nat) + (1 : Nat))), SC.int true
    IntKind.i64 (Int.ofNat (0 : Nat)) Bd.any, SC.int true IntKind.i64 (Int.ofNat (0 : Nat)) Bd.any, SC.int true IntKind.i64 (Int.ofNat ((2 : Nat) + (1 : Nat))), SC.int true IntKind.i64
    (Int.ofNat (0 : Nat)) Bd.any, SC.int true IntKind.i64 (Int.ofNat (0 : Nat)) Bd.any] = true ∧ (3 : Nat) = (3 : Nat) ∧ SegOk (3 : Nat) (((((((Ar.new (60000 : Nat)).lay [(0 : Nat), (0
    : Nat), (0 : Nat), (0 : Nat), (0 : Nat), (0 : Nat), (0 : Nat)] v).write (0 : Int) (1 : Int) (65537 : Int)).lay [(0 : Nat), (0 : Nat), (0 : Nat), (0 : Nat), (0 : Nat), (0 : Nat), (0
    : Nat), (0 : Nat), (0 : Nat), (0 : Nat), (0 : Nat), (0 : Nat), (0 : Nat), (0 : Nat)] v_1).write (0 : Int) (2 : Int) (131074 : Int)).lay [(0 : Nat), (0 : Nat), (0 : Nat), (0 : Nat),
    (0 : Nat), (0 : Nat), (0 : Nat), (0 : Nat), (0 : Nat), (0 : Nat), (0 : Nat), (0 : Nat), (0 : Nat), (0 : Nat), (0 : Nat), (0 : Nat), (0 : Nat), (0 : Nat), (0 : Nat), (0 : Nat), (0 :
    Nat), (0 : Nat), (0 : Nat), (0 : Nat), (0 : Nat), (0 : Nat), (0 : Nat), (0 : Nat)] v_2).write (0 : Int) (3 : Int) (196611 : Int)) ∧ (3 : Nat) = [SC.int true IntKind.u64 (Int.ofNat
    ((65536 : Nat) + (1 : Nat))) Bd.any, SC.int true IntKind.u64 (131074 : Int) Bd.any, SC.int true IntKind.u64 (196611 : Int) Bd.any].length ∧ cap = cap ∧ (65537 : Int) = (65537 : Int)
    ∧ (131074 : Int) = (131074 : Int) ∧ (196611 : Int) = (196611 : Int) ∧ True) ∧ True) ∧ True) ∧ True) ∧ True) ∧ True) ∧ True) ∧ True) := by
  kernel_rfl
theorem seg_run3 : callN Try.prog tblS (fun _ _ => false) 100 20 16 [.c (.int true .i64 3)] ⟨[], 0⟩ .nil (fun v m _ => segPost 3 v m) := by
  rw [seg_vc3]
  repeat' first
    | with_reducible apply And.intro
    | with_reducible exact trivial
    | intro _
    | with_reducible exact Eq.refl _
  all_goals first
    | omega
    | (unfold Ar.Has; exact ⟨by omega, by omega, by omega, rfl⟩)
    | exact Nat.le_of_ble_eq_true rfl
    | exact (SegOk.more (SegOk.more (SegOk.more SegOk.new _ rfl rfl rfl) _ rfl rfl rfl) _ rfl rfl rfl)
    | rfl
    | (simp_all; done)
end Go.Proofs.Ytgiakcepgbpchaa
