/- Seg of a collect that is done and has found nothing. -/
import Derived.Test.YtnfpkadepomjjaaBaseCol
set_option linter.all false
namespace Go.Proofs.Ytnfpkadepomjjaa
open Go Go.RowKit
set_option maxRecDepth 1000000
set_option maxHeartbeats 0
/-- What the executor leaves to be shown of (*roundelay/collect.Collect).Seg, written out. -/
theorem colG0_vc (g node : Nat) (segs : Nat → Nat) (A : Ar) (cap : Nat) : (callN Try.prog (([] : List (Smry Try.prog XE)) : List (Smry Try.prog XE)) (fun _ _ => false) 100 20 94 [.c (.ptr 0 0), .c (.int true .i64 0 .any)] ⟨colHeap ⟨2, g, node, segs, []⟩ cap ++ [(1, arO A)], 100⟩ (.nil) (fun v m _ => outM (.c (.int false .u64 (segs 0 : Nat))) (colHeap ⟨2, g, node, segs, []⟩ cap ++ [(1, arO A)]) v m)) = (
    (↑(segs (0 : Nat)) : Int) = (↑(segs (0 : Nat)) : Int) ∧ (Value.nilFunc = Value.nilFunc ∧ (0 : Nat) = (0 : Nat) ∧ (↑g : Int) = (↑g : Int) ∧ (↑node : Int) = (↑node : Int) ∧ (↑(segs (0
    : Nat)) : Int) = (↑(segs (0 : Nat)) : Int) ∧ (↑(segs (1 : Nat)) : Int) = (↑(segs (1 : Nat)) : Int) ∧ (↑(segs (2 : Nat)) : Int) = (↑(segs (2 : Nat)) : Int) ∧ (↑(segs (3 : Nat)) :
    Int) = (↑(segs (3 : Nat)) : Int) ∧ (↑(segs (4 : Nat)) : Int) = (↑(segs (4 : Nat)) : Int) ∧ (↑(segs (5 : Nat)) : Int) = (↑(segs (5 : Nat)) : Int) ∧ (↑(segs (6 : Nat)) : Int) =
    (↑(segs (6 : Nat)) : Int) ∧ (↑(segs (7 : Nat)) : Int) = (↑(segs (7 : Nat)) : Int) ∧ True ∧ True) ∧ A = A ∧ True) := by
  kernel_rfl
theorem colG0_run (g node : Nat) (segs : Nat → Nat) (A : Ar) (cap : Nat) (hc : True) : Run (callN Try.prog (([] : List (Smry Try.prog XE)) : List (Smry Try.prog XE)) (fun _ _ => false) 100 20 94 [.c (.ptr 0 0), .c (.int true .i64 0 .any)] ⟨colHeap ⟨2, g, node, segs, []⟩ cap ++ [(1, arO A)], 100⟩ (.nil) (fun v m _ => outM (.c (.int false .u64 (segs 0 : Nat))) (colHeap ⟨2, g, node, segs, []⟩ cap ++ [(1, arO A)]) v m)) := by
  constructor
  rw [colG0_vc]
  repeat' first
    | with_reducible apply And.intro
    | with_reducible exact trivial
    | with_reducible exact Eq.refl _
    | (refine fun (K : KO XE) => ?_; simp only [eq_self, true_and, and_true, imp_self, implies_true]; done)
    | (refine fun (K : KO XE) => ?_; simp only [eq_self, true_and, and_true, imp_self, implies_true]; exact id)
    | omega
/-- What the executor leaves to be shown of (*roundelay/collect.Collect).Seg, written out. -/
theorem colG1_vc (g node : Nat) (segs : Nat → Nat) (A : Ar) (cap : Nat) : (callN Try.prog (([] : List (Smry Try.prog XE)) : List (Smry Try.prog XE)) (fun _ _ => false) 100 20 94 [.c (.ptr 0 0), .c (.int true .i64 1 .any)] ⟨colHeap ⟨2, g, node, segs, []⟩ cap ++ [(1, arO A)], 100⟩ (.nil) (fun v m _ => outM (.c (.int false .u64 (segs 1 : Nat))) (colHeap ⟨2, g, node, segs, []⟩ cap ++ [(1, arO A)]) v m)) = (
    (↑(segs (1 : Nat)) : Int) = (↑(segs (1 : Nat)) : Int) ∧ (Value.nilFunc = Value.nilFunc ∧ (0 : Nat) = (0 : Nat) ∧ (↑g : Int) = (↑g : Int) ∧ (↑node : Int) = (↑node : Int) ∧ (↑(segs (0
    : Nat)) : Int) = (↑(segs (0 : Nat)) : Int) ∧ (↑(segs (1 : Nat)) : Int) = (↑(segs (1 : Nat)) : Int) ∧ (↑(segs (2 : Nat)) : Int) = (↑(segs (2 : Nat)) : Int) ∧ (↑(segs (3 : Nat)) :
    Int) = (↑(segs (3 : Nat)) : Int) ∧ (↑(segs (4 : Nat)) : Int) = (↑(segs (4 : Nat)) : Int) ∧ (↑(segs (5 : Nat)) : Int) = (↑(segs (5 : Nat)) : Int) ∧ (↑(segs (6 : Nat)) : Int) =
    (↑(segs (6 : Nat)) : Int) ∧ (↑(segs (7 : Nat)) : Int) = (↑(segs (7 : Nat)) : Int) ∧ True ∧ True) ∧ A = A ∧ True) := by
  kernel_rfl
theorem colG1_run (g node : Nat) (segs : Nat → Nat) (A : Ar) (cap : Nat) (hc : True) : Run (callN Try.prog (([] : List (Smry Try.prog XE)) : List (Smry Try.prog XE)) (fun _ _ => false) 100 20 94 [.c (.ptr 0 0), .c (.int true .i64 1 .any)] ⟨colHeap ⟨2, g, node, segs, []⟩ cap ++ [(1, arO A)], 100⟩ (.nil) (fun v m _ => outM (.c (.int false .u64 (segs 1 : Nat))) (colHeap ⟨2, g, node, segs, []⟩ cap ++ [(1, arO A)]) v m)) := by
  constructor
  rw [colG1_vc]
  repeat' first
    | with_reducible apply And.intro
    | with_reducible exact trivial
    | with_reducible exact Eq.refl _
    | (refine fun (K : KO XE) => ?_; simp only [eq_self, true_and, and_true, imp_self, implies_true]; done)
    | (refine fun (K : KO XE) => ?_; simp only [eq_self, true_and, and_true, imp_self, implies_true]; exact id)
    | omega
end Go.Proofs.Ytnfpkadepomjjaa
