/- A claim: New, Step, Done, Place as contracts. -/
import Derived.Test.YtgiakcepgbpchaaClmS
import Derived.Test.YtgiakcepgbpchaaHidA
set_option linter.all false
namespace Go.Proofs.Ytgiakcepgbpchaa
open Go Go.RowKit
set_option maxRecDepth 1000000
set_option maxHeartbeats 0
set_option maxRecDepth 100000
/-- What the executor leaves to be shown of (*roundelay/claim.Claim).Done, written out. -/
theorem clmD0_vc (tok seg slot g priv : Nat) (got : Bool) (e : Nat) (A : PA) : (callN Try.prog ([] : List (Smry Try.prog XP)) (fun _ _ => false) 100 20 57 [.c (.ptr 0 0)] ⟨clmHeap (⟨0, tok, seg, slot, g, priv, got, e⟩ : Clm) .mk ++ [(1, parO A)], 100⟩ (.nil) (fun v m _ => outM (.c (.boo false false)) (clmHeap (⟨0, tok, seg, slot, g, priv, got, e⟩ : Clm) .mk ++ [(1, parO A)]) v m)) = (
    false = false ∧ ((((0 : Nat) = (0 : Nat) ∧ True) ∧ True) ∧ (0 : Nat) = (0 : Nat) ∧ (↑tok : Int) = (↑tok : Int) ∧ (↑seg : Int) = (↑seg : Int) ∧ (↑slot : Int) = (↑slot : Int) ∧ (↑g :
    Int) = (↑g : Int) ∧ (↑priv : Int) = (↑priv : Int) ∧ got = got ∧ (↑e : Int) = (↑e : Int) ∧ True) ∧ A = A ∧ True) := by
  kernel_rfl
theorem clmD0_run (tok seg slot g priv : Nat) (got : Bool) (e : Nat) (A : PA) (hc : True) : Run (callN Try.prog ([] : List (Smry Try.prog XP)) (fun _ _ => false) 100 20 57 [.c (.ptr 0 0)] ⟨clmHeap (⟨0, tok, seg, slot, g, priv, got, e⟩ : Clm) .mk ++ [(1, parO A)], 100⟩ (.nil) (fun v m _ => outM (.c (.boo false false)) (clmHeap (⟨0, tok, seg, slot, g, priv, got, e⟩ : Clm) .mk ++ [(1, parO A)]) v m)) := by
  constructor
  rw [clmD0_vc]
  repeat' first
    | with_reducible apply And.intro
    | with_reducible exact trivial
    | with_reducible exact fun _ h => h
    | with_reducible exact Eq.refl _
    | (intro (K : KO XP); simp only [and_imp]; intros; repeat' first | with_reducible apply And.intro | with_reducible exact trivial | with_reducible exact Eq.refl _ | with_reducible assumption)
    | intro _

  all_goals first
    | rfl
    | (rename_i h; simp_all)
/-- What the executor leaves to be shown of (*roundelay/claim.Claim).Done, written out. -/
theorem clmD1_vc (tok seg slot g priv : Nat) (got : Bool) (e : Nat) (A : PA) : (callN Try.prog ([] : List (Smry Try.prog XP)) (fun _ _ => false) 100 20 57 [.c (.ptr 0 0)] ⟨clmHeap (⟨1, tok, seg, slot, g, priv, got, e⟩ : Clm) .mk ++ [(1, parO A)], 100⟩ (.nil) (fun v m _ => outM (.c (.boo false false)) (clmHeap (⟨1, tok, seg, slot, g, priv, got, e⟩ : Clm) .mk ++ [(1, parO A)]) v m)) = (
    false = false ∧ ((((0 : Nat) = (0 : Nat) ∧ True) ∧ True) ∧ (0 : Nat) = (0 : Nat) ∧ (↑tok : Int) = (↑tok : Int) ∧ (↑seg : Int) = (↑seg : Int) ∧ (↑slot : Int) = (↑slot : Int) ∧ (↑g :
    Int) = (↑g : Int) ∧ (↑priv : Int) = (↑priv : Int) ∧ got = got ∧ (↑e : Int) = (↑e : Int) ∧ True) ∧ A = A ∧ True) := by
  kernel_rfl
theorem clmD1_run (tok seg slot g priv : Nat) (got : Bool) (e : Nat) (A : PA) (hc : True) : Run (callN Try.prog ([] : List (Smry Try.prog XP)) (fun _ _ => false) 100 20 57 [.c (.ptr 0 0)] ⟨clmHeap (⟨1, tok, seg, slot, g, priv, got, e⟩ : Clm) .mk ++ [(1, parO A)], 100⟩ (.nil) (fun v m _ => outM (.c (.boo false false)) (clmHeap (⟨1, tok, seg, slot, g, priv, got, e⟩ : Clm) .mk ++ [(1, parO A)]) v m)) := by
  constructor
  rw [clmD1_vc]
  repeat' first
    | with_reducible apply And.intro
    | with_reducible exact trivial
    | with_reducible exact fun _ h => h
    | with_reducible exact Eq.refl _
    | (intro (K : KO XP); simp only [and_imp]; intros; repeat' first | with_reducible apply And.intro | with_reducible exact trivial | with_reducible exact Eq.refl _ | with_reducible assumption)
    | intro _

  all_goals first
    | rfl
    | (rename_i h; simp_all)
/-- What the executor leaves to be shown of (*roundelay/claim.Claim).Done, written out. -/
theorem clmD2_vc (tok seg slot g priv : Nat) (got : Bool) (e : Nat) (A : PA) : (callN Try.prog ([] : List (Smry Try.prog XP)) (fun _ _ => false) 100 20 57 [.c (.ptr 0 0)] ⟨clmHeap (⟨2, tok, seg, slot, g, priv, got, e⟩ : Clm) .mk ++ [(1, parO A)], 100⟩ (.nil) (fun v m _ => outM (.c (.boo false false)) (clmHeap (⟨2, tok, seg, slot, g, priv, got, e⟩ : Clm) .mk ++ [(1, parO A)]) v m)) = (
    false = false ∧ ((((0 : Nat) = (0 : Nat) ∧ True) ∧ True) ∧ (0 : Nat) = (0 : Nat) ∧ (↑tok : Int) = (↑tok : Int) ∧ (↑seg : Int) = (↑seg : Int) ∧ (↑slot : Int) = (↑slot : Int) ∧ (↑g :
    Int) = (↑g : Int) ∧ (↑priv : Int) = (↑priv : Int) ∧ got = got ∧ (↑e : Int) = (↑e : Int) ∧ True) ∧ A = A ∧ True) := by
  kernel_rfl
theorem clmD2_run (tok seg slot g priv : Nat) (got : Bool) (e : Nat) (A : PA) (hc : True) : Run (callN Try.prog ([] : List (Smry Try.prog XP)) (fun _ _ => false) 100 20 57 [.c (.ptr 0 0)] ⟨clmHeap (⟨2, tok, seg, slot, g, priv, got, e⟩ : Clm) .mk ++ [(1, parO A)], 100⟩ (.nil) (fun v m _ => outM (.c (.boo false false)) (clmHeap (⟨2, tok, seg, slot, g, priv, got, e⟩ : Clm) .mk ++ [(1, parO A)]) v m)) := by
  constructor
  rw [clmD2_vc]
  repeat' first
    | with_reducible apply And.intro
    | with_reducible exact trivial
    | with_reducible exact fun _ h => h
    | with_reducible exact Eq.refl _
    | (intro (K : KO XP); simp only [and_imp]; intros; repeat' first | with_reducible apply And.intro | with_reducible exact trivial | with_reducible exact Eq.refl _ | with_reducible assumption)
    | intro _

  all_goals first
    | rfl
    | (rename_i h; simp_all)
/-- What the executor leaves to be shown of (*roundelay/claim.Claim).Done, written out. -/
theorem clmD3_vc (tok seg slot g priv : Nat) (got : Bool) (e : Nat) (A : PA) : (callN Try.prog ([] : List (Smry Try.prog XP)) (fun _ _ => false) 100 20 57 [.c (.ptr 0 0)] ⟨clmHeap (⟨3, tok, seg, slot, g, priv, got, e⟩ : Clm) .mk ++ [(1, parO A)], 100⟩ (.nil) (fun v m _ => outM (.c (.boo false false)) (clmHeap (⟨3, tok, seg, slot, g, priv, got, e⟩ : Clm) .mk ++ [(1, parO A)]) v m)) = (
    false = false ∧ ((((0 : Nat) = (0 : Nat) ∧ True) ∧ True) ∧ (0 : Nat) = (0 : Nat) ∧ (↑tok : Int) = (↑tok : Int) ∧ (↑seg : Int) = (↑seg : Int) ∧ (↑slot : Int) = (↑slot : Int) ∧ (↑g :
    Int) = (↑g : Int) ∧ (↑priv : Int) = (↑priv : Int) ∧ got = got ∧ (↑e : Int) = (↑e : Int) ∧ True) ∧ A = A ∧ True) := by
  kernel_rfl
theorem clmD3_run (tok seg slot g priv : Nat) (got : Bool) (e : Nat) (A : PA) (hc : True) : Run (callN Try.prog ([] : List (Smry Try.prog XP)) (fun _ _ => false) 100 20 57 [.c (.ptr 0 0)] ⟨clmHeap (⟨3, tok, seg, slot, g, priv, got, e⟩ : Clm) .mk ++ [(1, parO A)], 100⟩ (.nil) (fun v m _ => outM (.c (.boo false false)) (clmHeap (⟨3, tok, seg, slot, g, priv, got, e⟩ : Clm) .mk ++ [(1, parO A)]) v m)) := by
  constructor
  rw [clmD3_vc]
  repeat' first
    | with_reducible apply And.intro
    | with_reducible exact trivial
    | with_reducible exact fun _ h => h
    | with_reducible exact Eq.refl _
    | (intro (K : KO XP); simp only [and_imp]; intros; repeat' first | with_reducible apply And.intro | with_reducible exact trivial | with_reducible exact Eq.refl _ | with_reducible assumption)
    | intro _

  all_goals first
    | rfl
    | (rename_i h; simp_all)
/-- What the executor leaves to be shown of (*roundelay/claim.Claim).Done, written out. -/
theorem clmD4_vc (tok seg slot g priv : Nat) (got : Bool) (e : Nat) (A : PA) : (callN Try.prog ([] : List (Smry Try.prog XP)) (fun _ _ => false) 100 20 57 [.c (.ptr 0 0)] ⟨clmHeap (⟨4, tok, seg, slot, g, priv, got, e⟩ : Clm) .mk ++ [(1, parO A)], 100⟩ (.nil) (fun v m _ => outM (.c (.boo false false)) (clmHeap (⟨4, tok, seg, slot, g, priv, got, e⟩ : Clm) .mk ++ [(1, parO A)]) v m)) = (
    false = false ∧ ((((0 : Nat) = (0 : Nat) ∧ True) ∧ True) ∧ (0 : Nat) = (0 : Nat) ∧ (↑tok : Int) = (↑tok : Int) ∧ (↑seg : Int) = (↑seg : Int) ∧ (↑slot : Int) = (↑slot : Int) ∧ (↑g :
    Int) = (↑g : Int) ∧ (↑priv : Int) = (↑priv : Int) ∧ got = got ∧ (↑e : Int) = (↑e : Int) ∧ True) ∧ A = A ∧ True) := by
  kernel_rfl
theorem clmD4_run (tok seg slot g priv : Nat) (got : Bool) (e : Nat) (A : PA) (hc : True) : Run (callN Try.prog ([] : List (Smry Try.prog XP)) (fun _ _ => false) 100 20 57 [.c (.ptr 0 0)] ⟨clmHeap (⟨4, tok, seg, slot, g, priv, got, e⟩ : Clm) .mk ++ [(1, parO A)], 100⟩ (.nil) (fun v m _ => outM (.c (.boo false false)) (clmHeap (⟨4, tok, seg, slot, g, priv, got, e⟩ : Clm) .mk ++ [(1, parO A)]) v m)) := by
  constructor
  rw [clmD4_vc]
  repeat' first
    | with_reducible apply And.intro
    | with_reducible exact trivial
    | with_reducible exact fun _ h => h
    | with_reducible exact Eq.refl _
    | (intro (K : KO XP); simp only [and_imp]; intros; repeat' first | with_reducible apply And.intro | with_reducible exact trivial | with_reducible exact Eq.refl _ | with_reducible assumption)
    | intro _

  all_goals first
    | rfl
    | (rename_i h; simp_all)
/-- What the executor leaves to be shown of (*roundelay/claim.Claim).Done, written out. -/
theorem clmD5_vc (tok seg slot g priv : Nat) (got : Bool) (e : Nat) (A : PA) : (callN Try.prog ([] : List (Smry Try.prog XP)) (fun _ _ => false) 100 20 57 [.c (.ptr 0 0)] ⟨clmHeap (⟨5, tok, seg, slot, g, priv, got, e⟩ : Clm) .mk ++ [(1, parO A)], 100⟩ (.nil) (fun v m _ => outM (.c (.boo false true)) (clmHeap (⟨5, tok, seg, slot, g, priv, got, e⟩ : Clm) .mk ++ [(1, parO A)]) v m)) = (
    true = true ∧ (Value.nilFunc = Value.nilFunc ∧ (0 : Nat) = (0 : Nat) ∧ (↑tok : Int) = (↑tok : Int) ∧ (↑seg : Int) = (↑seg : Int) ∧ (↑slot : Int) = (↑slot : Int) ∧ (↑g : Int) = (↑g :
    Int) ∧ (↑priv : Int) = (↑priv : Int) ∧ got = got ∧ (↑e : Int) = (↑e : Int) ∧ True) ∧ A = A ∧ True) := by
  kernel_rfl
theorem clmD5_run (tok seg slot g priv : Nat) (got : Bool) (e : Nat) (A : PA) (hc : True) : Run (callN Try.prog ([] : List (Smry Try.prog XP)) (fun _ _ => false) 100 20 57 [.c (.ptr 0 0)] ⟨clmHeap (⟨5, tok, seg, slot, g, priv, got, e⟩ : Clm) .mk ++ [(1, parO A)], 100⟩ (.nil) (fun v m _ => outM (.c (.boo false true)) (clmHeap (⟨5, tok, seg, slot, g, priv, got, e⟩ : Clm) .mk ++ [(1, parO A)]) v m)) := by
  constructor
  rw [clmD5_vc]
  repeat' first
    | with_reducible apply And.intro
    | with_reducible exact trivial
    | with_reducible exact fun _ h => h
    | with_reducible exact Eq.refl _
    | (intro (K : KO XP); simp only [and_imp]; intros; repeat' first | with_reducible apply And.intro | with_reducible exact trivial | with_reducible exact Eq.refl _ | with_reducible assumption)
    | intro _

  all_goals first
    | rfl
    | (rename_i h; simp_all)
/-- What the executor leaves to be shown of (*roundelay/claim.Claim).Place, written out. -/
theorem clmP0_vc (tok seg slot g priv : Nat) (got : Bool) (e : Nat) (A : PA) : (callN Try.prog ([] : List (Smry Try.prog XP)) (fun _ _ => false) 100 20 56 [.c (.ptr 0 0)] ⟨clmHeap (⟨0, tok, seg, slot, g, priv, got, e⟩ : Clm) .mk ++ [(1, parO A)], 100⟩ (bN 3) (fun v m _ => outM (.tup [(true, [.int false .u64 ((if got = true then seg else 0 : Nat) : Int), .int false .i64 ((if got = true then slot else 0 : Nat) : Int)]), (false, [.boo false got])]) (clmHeap (⟨0, tok, seg, slot, g, priv, got, e⟩ : Clm) .mk ++ [(1, parO A)]) v m)) = (
    ((!got) = true → (↑(if got = true then seg else (0 : Nat)) : Int) = (0 : Int) ∧ (↑(if got = true then slot else (0 : Nat)) : Int) = (0 : Int) ∧ got = false ∧ ((((0 : Nat) = (0 :
    Nat) ∧ True) ∧ True) ∧ (0 : Nat) = (0 : Nat) ∧ (↑tok : Int) = (↑tok : Int) ∧ (↑seg : Int) = (↑seg : Int) ∧ (↑slot : Int) = (↑slot : Int) ∧ (↑g : Int) = (↑g : Int) ∧ (↑priv : Int) =
    (↑priv : Int) ∧ got = got ∧ (↑e : Int) = (↑e : Int) ∧ True) ∧ A = A ∧ True) ∧ ((!got) = false → (↑(if got = true then seg else (0 : Nat)) : Int) = (↑seg : Int) ∧ (↑(if got = true
    then slot else (0 : Nat)) : Int) = (↑slot : Int) ∧ got = true ∧ ((((0 : Nat) = (0 : Nat) ∧ True) ∧ True) ∧ (0 : Nat) = (0 : Nat) ∧ (↑tok : Int) = (↑tok : Int) ∧ (↑seg : Int) = (↑seg
    : Int) ∧ (↑slot : Int) = (↑slot : Int) ∧ (↑g : Int) = (↑g : Int) ∧ (↑priv : Int) = (↑priv : Int) ∧ got = got ∧ (↑e : Int) = (↑e : Int) ∧ True) ∧ A = A ∧ True)) := by
  kernel_rfl
theorem clmP0_run (tok seg slot g priv : Nat) (got : Bool) (e : Nat) (A : PA) (hc : True) : Run (callN Try.prog ([] : List (Smry Try.prog XP)) (fun _ _ => false) 100 20 56 [.c (.ptr 0 0)] ⟨clmHeap (⟨0, tok, seg, slot, g, priv, got, e⟩ : Clm) .mk ++ [(1, parO A)], 100⟩ (bN 3) (fun v m _ => outM (.tup [(true, [.int false .u64 ((if got = true then seg else 0 : Nat) : Int), .int false .i64 ((if got = true then slot else 0 : Nat) : Int)]), (false, [.boo false got])]) (clmHeap (⟨0, tok, seg, slot, g, priv, got, e⟩ : Clm) .mk ++ [(1, parO A)]) v m)) := by
  constructor
  rw [clmP0_vc]
  repeat' first
    | with_reducible apply And.intro
    | with_reducible exact trivial
    | with_reducible exact fun _ h => h
    | with_reducible exact Eq.refl _
    | (intro (K : KO XP); simp only [and_imp]; intros; repeat' first | with_reducible apply And.intro | with_reducible exact trivial | with_reducible exact Eq.refl _ | with_reducible assumption)
    | intro _

  all_goals first
    | rfl
    | (rename_i h; simp_all)
/-- What the executor leaves to be shown of (*roundelay/claim.Claim).Place, written out. -/
theorem clmP1_vc (tok seg slot g priv : Nat) (got : Bool) (e : Nat) (A : PA) : (callN Try.prog ([] : List (Smry Try.prog XP)) (fun _ _ => false) 100 20 56 [.c (.ptr 0 0)] ⟨clmHeap (⟨1, tok, seg, slot, g, priv, got, e⟩ : Clm) .mk ++ [(1, parO A)], 100⟩ (bN 3) (fun v m _ => outM (.tup [(true, [.int false .u64 ((if got = true then seg else 0 : Nat) : Int), .int false .i64 ((if got = true then slot else 0 : Nat) : Int)]), (false, [.boo false got])]) (clmHeap (⟨1, tok, seg, slot, g, priv, got, e⟩ : Clm) .mk ++ [(1, parO A)]) v m)) = (
    ((!got) = true → (↑(if got = true then seg else (0 : Nat)) : Int) = (0 : Int) ∧ (↑(if got = true then slot else (0 : Nat)) : Int) = (0 : Int) ∧ got = false ∧ ((((0 : Nat) = (0 :
    Nat) ∧ True) ∧ True) ∧ (0 : Nat) = (0 : Nat) ∧ (↑tok : Int) = (↑tok : Int) ∧ (↑seg : Int) = (↑seg : Int) ∧ (↑slot : Int) = (↑slot : Int) ∧ (↑g : Int) = (↑g : Int) ∧ (↑priv : Int) =
    (↑priv : Int) ∧ got = got ∧ (↑e : Int) = (↑e : Int) ∧ True) ∧ A = A ∧ True) ∧ ((!got) = false → (↑(if got = true then seg else (0 : Nat)) : Int) = (↑seg : Int) ∧ (↑(if got = true
    then slot else (0 : Nat)) : Int) = (↑slot : Int) ∧ got = true ∧ ((((0 : Nat) = (0 : Nat) ∧ True) ∧ True) ∧ (0 : Nat) = (0 : Nat) ∧ (↑tok : Int) = (↑tok : Int) ∧ (↑seg : Int) = (↑seg
    : Int) ∧ (↑slot : Int) = (↑slot : Int) ∧ (↑g : Int) = (↑g : Int) ∧ (↑priv : Int) = (↑priv : Int) ∧ got = got ∧ (↑e : Int) = (↑e : Int) ∧ True) ∧ A = A ∧ True)) := by
  kernel_rfl
theorem clmP1_run (tok seg slot g priv : Nat) (got : Bool) (e : Nat) (A : PA) (hc : True) : Run (callN Try.prog ([] : List (Smry Try.prog XP)) (fun _ _ => false) 100 20 56 [.c (.ptr 0 0)] ⟨clmHeap (⟨1, tok, seg, slot, g, priv, got, e⟩ : Clm) .mk ++ [(1, parO A)], 100⟩ (bN 3) (fun v m _ => outM (.tup [(true, [.int false .u64 ((if got = true then seg else 0 : Nat) : Int), .int false .i64 ((if got = true then slot else 0 : Nat) : Int)]), (false, [.boo false got])]) (clmHeap (⟨1, tok, seg, slot, g, priv, got, e⟩ : Clm) .mk ++ [(1, parO A)]) v m)) := by
  constructor
  rw [clmP1_vc]
  repeat' first
    | with_reducible apply And.intro
    | with_reducible exact trivial
    | with_reducible exact fun _ h => h
    | with_reducible exact Eq.refl _
    | (intro (K : KO XP); simp only [and_imp]; intros; repeat' first | with_reducible apply And.intro | with_reducible exact trivial | with_reducible exact Eq.refl _ | with_reducible assumption)
    | intro _

  all_goals first
    | rfl
    | (rename_i h; simp_all)
/-- What the executor leaves to be shown of (*roundelay/claim.Claim).Place, written out. -/
theorem clmP2_vc (tok seg slot g priv : Nat) (got : Bool) (e : Nat) (A : PA) : (callN Try.prog ([] : List (Smry Try.prog XP)) (fun _ _ => false) 100 20 56 [.c (.ptr 0 0)] ⟨clmHeap (⟨2, tok, seg, slot, g, priv, got, e⟩ : Clm) .mk ++ [(1, parO A)], 100⟩ (bN 3) (fun v m _ => outM (.tup [(true, [.int false .u64 ((if got = true then seg else 0 : Nat) : Int), .int false .i64 ((if got = true then slot else 0 : Nat) : Int)]), (false, [.boo false got])]) (clmHeap (⟨2, tok, seg, slot, g, priv, got, e⟩ : Clm) .mk ++ [(1, parO A)]) v m)) = (
    ((!got) = true → (↑(if got = true then seg else (0 : Nat)) : Int) = (0 : Int) ∧ (↑(if got = true then slot else (0 : Nat)) : Int) = (0 : Int) ∧ got = false ∧ ((((0 : Nat) = (0 :
    Nat) ∧ True) ∧ True) ∧ (0 : Nat) = (0 : Nat) ∧ (↑tok : Int) = (↑tok : Int) ∧ (↑seg : Int) = (↑seg : Int) ∧ (↑slot : Int) = (↑slot : Int) ∧ (↑g : Int) = (↑g : Int) ∧ (↑priv : Int) =
    (↑priv : Int) ∧ got = got ∧ (↑e : Int) = (↑e : Int) ∧ True) ∧ A = A ∧ True) ∧ ((!got) = false → (↑(if got = true then seg else (0 : Nat)) : Int) = (↑seg : Int) ∧ (↑(if got = true
    then slot else (0 : Nat)) : Int) = (↑slot : Int) ∧ got = true ∧ ((((0 : Nat) = (0 : Nat) ∧ True) ∧ True) ∧ (0 : Nat) = (0 : Nat) ∧ (↑tok : Int) = (↑tok : Int) ∧ (↑seg : Int) = (↑seg
    : Int) ∧ (↑slot : Int) = (↑slot : Int) ∧ (↑g : Int) = (↑g : Int) ∧ (↑priv : Int) = (↑priv : Int) ∧ got = got ∧ (↑e : Int) = (↑e : Int) ∧ True) ∧ A = A ∧ True)) := by
  kernel_rfl
theorem clmP2_run (tok seg slot g priv : Nat) (got : Bool) (e : Nat) (A : PA) (hc : True) : Run (callN Try.prog ([] : List (Smry Try.prog XP)) (fun _ _ => false) 100 20 56 [.c (.ptr 0 0)] ⟨clmHeap (⟨2, tok, seg, slot, g, priv, got, e⟩ : Clm) .mk ++ [(1, parO A)], 100⟩ (bN 3) (fun v m _ => outM (.tup [(true, [.int false .u64 ((if got = true then seg else 0 : Nat) : Int), .int false .i64 ((if got = true then slot else 0 : Nat) : Int)]), (false, [.boo false got])]) (clmHeap (⟨2, tok, seg, slot, g, priv, got, e⟩ : Clm) .mk ++ [(1, parO A)]) v m)) := by
  constructor
  rw [clmP2_vc]
  repeat' first
    | with_reducible apply And.intro
    | with_reducible exact trivial
    | with_reducible exact fun _ h => h
    | with_reducible exact Eq.refl _
    | (intro (K : KO XP); simp only [and_imp]; intros; repeat' first | with_reducible apply And.intro | with_reducible exact trivial | with_reducible exact Eq.refl _ | with_reducible assumption)
    | intro _

  all_goals first
    | rfl
    | (rename_i h; simp_all)
/-- What the executor leaves to be shown of (*roundelay/claim.Claim).Place, written out. -/
theorem clmP3_vc (tok seg slot g priv : Nat) (got : Bool) (e : Nat) (A : PA) : (callN Try.prog ([] : List (Smry Try.prog XP)) (fun _ _ => false) 100 20 56 [.c (.ptr 0 0)] ⟨clmHeap (⟨3, tok, seg, slot, g, priv, got, e⟩ : Clm) .mk ++ [(1, parO A)], 100⟩ (bN 3) (fun v m _ => outM (.tup [(true, [.int false .u64 ((if got = true then seg else 0 : Nat) : Int), .int false .i64 ((if got = true then slot else 0 : Nat) : Int)]), (false, [.boo false got])]) (clmHeap (⟨3, tok, seg, slot, g, priv, got, e⟩ : Clm) .mk ++ [(1, parO A)]) v m)) = (
    ((!got) = true → (↑(if got = true then seg else (0 : Nat)) : Int) = (0 : Int) ∧ (↑(if got = true then slot else (0 : Nat)) : Int) = (0 : Int) ∧ got = false ∧ ((((0 : Nat) = (0 :
    Nat) ∧ True) ∧ True) ∧ (0 : Nat) = (0 : Nat) ∧ (↑tok : Int) = (↑tok : Int) ∧ (↑seg : Int) = (↑seg : Int) ∧ (↑slot : Int) = (↑slot : Int) ∧ (↑g : Int) = (↑g : Int) ∧ (↑priv : Int) =
    (↑priv : Int) ∧ got = got ∧ (↑e : Int) = (↑e : Int) ∧ True) ∧ A = A ∧ True) ∧ ((!got) = false → (↑(if got = true then seg else (0 : Nat)) : Int) = (↑seg : Int) ∧ (↑(if got = true
    then slot else (0 : Nat)) : Int) = (↑slot : Int) ∧ got = true ∧ ((((0 : Nat) = (0 : Nat) ∧ True) ∧ True) ∧ (0 : Nat) = (0 : Nat) ∧ (↑tok : Int) = (↑tok : Int) ∧ (↑seg : Int) = (↑seg
    : Int) ∧ (↑slot : Int) = (↑slot : Int) ∧ (↑g : Int) = (↑g : Int) ∧ (↑priv : Int) = (↑priv : Int) ∧ got = got ∧ (↑e : Int) = (↑e : Int) ∧ True) ∧ A = A ∧ True)) := by
  kernel_rfl
theorem clmP3_run (tok seg slot g priv : Nat) (got : Bool) (e : Nat) (A : PA) (hc : True) : Run (callN Try.prog ([] : List (Smry Try.prog XP)) (fun _ _ => false) 100 20 56 [.c (.ptr 0 0)] ⟨clmHeap (⟨3, tok, seg, slot, g, priv, got, e⟩ : Clm) .mk ++ [(1, parO A)], 100⟩ (bN 3) (fun v m _ => outM (.tup [(true, [.int false .u64 ((if got = true then seg else 0 : Nat) : Int), .int false .i64 ((if got = true then slot else 0 : Nat) : Int)]), (false, [.boo false got])]) (clmHeap (⟨3, tok, seg, slot, g, priv, got, e⟩ : Clm) .mk ++ [(1, parO A)]) v m)) := by
  constructor
  rw [clmP3_vc]
  repeat' first
    | with_reducible apply And.intro
    | with_reducible exact trivial
    | with_reducible exact fun _ h => h
    | with_reducible exact Eq.refl _
    | (intro (K : KO XP); simp only [and_imp]; intros; repeat' first | with_reducible apply And.intro | with_reducible exact trivial | with_reducible exact Eq.refl _ | with_reducible assumption)
    | intro _

  all_goals first
    | rfl
    | (rename_i h; simp_all)
/-- What the executor leaves to be shown of (*roundelay/claim.Claim).Place, written out. -/
theorem clmP4_vc (tok seg slot g priv : Nat) (got : Bool) (e : Nat) (A : PA) : (callN Try.prog ([] : List (Smry Try.prog XP)) (fun _ _ => false) 100 20 56 [.c (.ptr 0 0)] ⟨clmHeap (⟨4, tok, seg, slot, g, priv, got, e⟩ : Clm) .mk ++ [(1, parO A)], 100⟩ (bN 3) (fun v m _ => outM (.tup [(true, [.int false .u64 ((if got = true then seg else 0 : Nat) : Int), .int false .i64 ((if got = true then slot else 0 : Nat) : Int)]), (false, [.boo false got])]) (clmHeap (⟨4, tok, seg, slot, g, priv, got, e⟩ : Clm) .mk ++ [(1, parO A)]) v m)) = (
    ((!got) = true → (↑(if got = true then seg else (0 : Nat)) : Int) = (0 : Int) ∧ (↑(if got = true then slot else (0 : Nat)) : Int) = (0 : Int) ∧ got = false ∧ ((((0 : Nat) = (0 :
    Nat) ∧ True) ∧ True) ∧ (0 : Nat) = (0 : Nat) ∧ (↑tok : Int) = (↑tok : Int) ∧ (↑seg : Int) = (↑seg : Int) ∧ (↑slot : Int) = (↑slot : Int) ∧ (↑g : Int) = (↑g : Int) ∧ (↑priv : Int) =
    (↑priv : Int) ∧ got = got ∧ (↑e : Int) = (↑e : Int) ∧ True) ∧ A = A ∧ True) ∧ ((!got) = false → (↑(if got = true then seg else (0 : Nat)) : Int) = (↑seg : Int) ∧ (↑(if got = true
    then slot else (0 : Nat)) : Int) = (↑slot : Int) ∧ got = true ∧ ((((0 : Nat) = (0 : Nat) ∧ True) ∧ True) ∧ (0 : Nat) = (0 : Nat) ∧ (↑tok : Int) = (↑tok : Int) ∧ (↑seg : Int) = (↑seg
    : Int) ∧ (↑slot : Int) = (↑slot : Int) ∧ (↑g : Int) = (↑g : Int) ∧ (↑priv : Int) = (↑priv : Int) ∧ got = got ∧ (↑e : Int) = (↑e : Int) ∧ True) ∧ A = A ∧ True)) := by
  kernel_rfl
theorem clmP4_run (tok seg slot g priv : Nat) (got : Bool) (e : Nat) (A : PA) (hc : True) : Run (callN Try.prog ([] : List (Smry Try.prog XP)) (fun _ _ => false) 100 20 56 [.c (.ptr 0 0)] ⟨clmHeap (⟨4, tok, seg, slot, g, priv, got, e⟩ : Clm) .mk ++ [(1, parO A)], 100⟩ (bN 3) (fun v m _ => outM (.tup [(true, [.int false .u64 ((if got = true then seg else 0 : Nat) : Int), .int false .i64 ((if got = true then slot else 0 : Nat) : Int)]), (false, [.boo false got])]) (clmHeap (⟨4, tok, seg, slot, g, priv, got, e⟩ : Clm) .mk ++ [(1, parO A)]) v m)) := by
  constructor
  rw [clmP4_vc]
  repeat' first
    | with_reducible apply And.intro
    | with_reducible exact trivial
    | with_reducible exact fun _ h => h
    | with_reducible exact Eq.refl _
    | (intro (K : KO XP); simp only [and_imp]; intros; repeat' first | with_reducible apply And.intro | with_reducible exact trivial | with_reducible exact Eq.refl _ | with_reducible assumption)
    | intro _

  all_goals first
    | rfl
    | (rename_i h; simp_all)
/-- What the executor leaves to be shown of (*roundelay/claim.Claim).Place, written out. -/
theorem clmP5_vc (tok seg slot g priv : Nat) (got : Bool) (e : Nat) (A : PA) : (callN Try.prog ([] : List (Smry Try.prog XP)) (fun _ _ => false) 100 20 56 [.c (.ptr 0 0)] ⟨clmHeap (⟨5, tok, seg, slot, g, priv, got, e⟩ : Clm) .mk ++ [(1, parO A)], 100⟩ (bN 3) (fun v m _ => outM (.tup [(true, [.int false .u64 ((if got = true then seg else 0 : Nat) : Int), .int false .i64 ((if got = true then slot else 0 : Nat) : Int)]), (false, [.boo false got])]) (clmHeap (⟨5, tok, seg, slot, g, priv, got, e⟩ : Clm) .mk ++ [(1, parO A)]) v m)) = (
    ((!got) = true → (↑(if got = true then seg else (0 : Nat)) : Int) = (0 : Int) ∧ (↑(if got = true then slot else (0 : Nat)) : Int) = (0 : Int) ∧ got = false ∧ (Value.nilFunc =
    Value.nilFunc ∧ (0 : Nat) = (0 : Nat) ∧ (↑tok : Int) = (↑tok : Int) ∧ (↑seg : Int) = (↑seg : Int) ∧ (↑slot : Int) = (↑slot : Int) ∧ (↑g : Int) = (↑g : Int) ∧ (↑priv : Int) = (↑priv
    : Int) ∧ got = got ∧ (↑e : Int) = (↑e : Int) ∧ True) ∧ A = A ∧ True) ∧ ((!got) = false → (↑(if got = true then seg else (0 : Nat)) : Int) = (↑seg : Int) ∧ (↑(if got = true then slot
    else (0 : Nat)) : Int) = (↑slot : Int) ∧ got = true ∧ (Value.nilFunc = Value.nilFunc ∧ (0 : Nat) = (0 : Nat) ∧ (↑tok : Int) = (↑tok : Int) ∧ (↑seg : Int) = (↑seg : Int) ∧ (↑slot :
    Int) = (↑slot : Int) ∧ (↑g : Int) = (↑g : Int) ∧ (↑priv : Int) = (↑priv : Int) ∧ got = got ∧ (↑e : Int) = (↑e : Int) ∧ True) ∧ A = A ∧ True)) := by
  kernel_rfl
theorem clmP5_run (tok seg slot g priv : Nat) (got : Bool) (e : Nat) (A : PA) (hc : True) : Run (callN Try.prog ([] : List (Smry Try.prog XP)) (fun _ _ => false) 100 20 56 [.c (.ptr 0 0)] ⟨clmHeap (⟨5, tok, seg, slot, g, priv, got, e⟩ : Clm) .mk ++ [(1, parO A)], 100⟩ (bN 3) (fun v m _ => outM (.tup [(true, [.int false .u64 ((if got = true then seg else 0 : Nat) : Int), .int false .i64 ((if got = true then slot else 0 : Nat) : Int)]), (false, [.boo false got])]) (clmHeap (⟨5, tok, seg, slot, g, priv, got, e⟩ : Clm) .mk ++ [(1, parO A)]) v m)) := by
  constructor
  rw [clmP5_vc]
  repeat' first
    | with_reducible apply And.intro
    | with_reducible exact trivial
    | with_reducible exact fun _ h => h
    | with_reducible exact Eq.refl _
    | (intro (K : KO XP); simp only [and_imp]; intros; repeat' first | with_reducible apply And.intro | with_reducible exact trivial | with_reducible exact Eq.refl _ | with_reducible assumption)
    | intro _

  all_goals first
    | rfl
    | (rename_i h; simp_all)
/-- What the executor leaves to be shown of roundelay/claim.New, written out. -/
theorem clmN_vc (t : Nat) (A : PA) (ht : 0 < t) : (callN Try.prog ([segS] : List (Smry Try.prog XP)) (fun _ _ => false) 100 20 54 [.c (.ptr 1 0), .c (.int false .u64 (t : Int))] ⟨[(1, parO A)], 100⟩ (.f .nil) (fun v m _ => outM (.c (.ptr 10 0)) (renHeap (clmHeap ⟨0, t, 0, 0, 0, 0, false, 0⟩ .mk) ++ [(1, parO A)]) v m)) = (
    ((↑t : Int) == (0 : Int)) = false ∧ ((((0 : Nat) = (0 : Nat) ∧ True) ∧ True) ∧ (0 : Nat) = (0 : Nat) ∧ (↑t : Int) = (↑t : Int) ∧ (↑(0 : Nat) : Int) = (0 : Int) ∧ (↑(0 : Nat) : Int)
    = (0 : Int) ∧ (↑(0 : Nat) : Int) = (0 : Int) ∧ (↑(0 : Nat) : Int) = (0 : Int) ∧ false = false ∧ (↑(0 : Nat) : Int) = (0 : Int) ∧ True) ∧ A = A ∧ True) := by
  kernel_rfl
theorem clmN_run (t : Nat) (A : PA) (ht : 0 < t) (hc : True) : Run (callN Try.prog ([segS] : List (Smry Try.prog XP)) (fun _ _ => false) 100 20 54 [.c (.ptr 1 0), .c (.int false .u64 (t : Int))] ⟨[(1, parO A)], 100⟩ (.f .nil) (fun v m _ => outM (.c (.ptr 10 0)) (renHeap (clmHeap ⟨0, t, 0, 0, 0, 0, false, 0⟩ .mk) ++ [(1, parO A)]) v m)) := by
  constructor
  rw [clmN_vc]
  have e1 : ((t : Int) == 0) = false := by rw [beq_eq_false_iff_ne]; omega

  repeat' first
    | with_reducible apply And.intro
    | with_reducible exact trivial
    | with_reducible exact fun _ h => h
    | with_reducible exact Eq.refl _
    | (intro (K : KO XP); simp only [and_imp]; intros; repeat' first | with_reducible apply And.intro | with_reducible exact trivial | with_reducible exact Eq.refl _ | with_reducible assumption)
    | intro _

  all_goals first
    | exact ht
    | exact e1
    | rfl
def clmOkX (x : Clm) : XP.X → Prop
  | .obj [] A => clmOk x A ∧ x.ph ≤ 5
  | _ => False
def clmXF (x : Clm) : XP.X → Clm
  | .obj [] A => clmStep x A
  | _ => x
def clmAF (x : Clm) : XP.X → XP.X
  | .obj [] A => .obj [] (clmA x A)
  | o => o
theorem clm_step : MethodOk (E := XP) clmH 55 clmOkX (fun _ _ => .tup []) clmXF clmAF := by
  refine method_ok (H := clmH) ?_ ?_
  · rintro x o h
    unfold clmOkX at h
    split at h
    · exact ⟨rfl, rfl, rfl⟩
    · exact h.elim
  · rintro ⟨ph, tok, seg, slot, g, priv, got, e⟩ o h z
    unfold clmOkX at h
    split at h
    · rename_i A
      obtain ⟨h, h5⟩ := h
      dsimp only at h5
      cases z
      rcases (by omega : ph = 0 ∨ ph = 1 ∨ ph = 2 ∨ ph = 3 ∨ ph = 4 ∨ ph = 5) with rfl | rfl | rfl | rfl | rfl | rfl
      · exact ⟨_, _, _, _, _, _, clm0_run tok seg slot g priv got e A h, fun v m h => ⟨.mk, clmPost_of h⟩⟩
      · exact ⟨_, _, _, _, _, _, clm1_run tok seg slot g priv got e A h, fun v m h => ⟨.mk, clmPost_of h⟩⟩
      · exact ⟨_, _, _, _, _, _, clm2_run tok seg slot g priv got e A h, fun v m h => ⟨.mk, clmPost_of h⟩⟩
      · exact h.elim
      · exact ⟨_, _, _, _, _, _, clm4_run tok seg slot g priv got e A h, fun v m h => ⟨.mk, clmPost_of h⟩⟩
      · exact ⟨_, _, _, _, _, _, clm5_run tok seg slot g priv got e A h, fun v m h => ⟨.mk, clmPost_of h⟩⟩
    · exact h.elim
def clmIs (x : Clm) : XP.X → Prop
  | .obj [] _ => x.ph ≤ 5
  | _ => False
def clmDone (x : Clm) : Bool := Nat.beq x.ph 5
def placeV (x : Clm) : SV := .tup [(true, [.int false .u64 ((if x.got = true then x.seg else 0 : Nat) : Int), .int false .i64 ((if x.got = true then x.slot else 0 : Nat) : Int)]), (false, [.boo false x.got])]
theorem clm_done : MethodOk (E := XP) clmH 57 clmIs (fun x _ => .c (.boo false (clmDone x))) (fun x _ => x) (fun _ a => a) := by
  refine method_ok (H := clmH) ?_ ?_
  · rintro x o h
    unfold clmIs at h
    split at h
    · exact ⟨rfl, rfl, rfl⟩
    · exact h.elim
  · rintro ⟨ph, tok, seg, slot, g, priv, got, e⟩ o h z
    unfold clmIs at h
    split at h
    · rename_i A
      dsimp only at h
      cases z
      rcases (by omega : ph = 0 ∨ ph = 1 ∨ ph = 2 ∨ ph = 3 ∨ ph = 4 ∨ ph = 5) with rfl | rfl | rfl | rfl | rfl | rfl
      · exact ⟨_, _, _, _, _, _, clmD0_run tok seg slot g priv got e A trivial, fun v m h => ⟨.mk, h⟩⟩
      · exact ⟨_, _, _, _, _, _, clmD1_run tok seg slot g priv got e A trivial, fun v m h => ⟨.mk, h⟩⟩
      · exact ⟨_, _, _, _, _, _, clmD2_run tok seg slot g priv got e A trivial, fun v m h => ⟨.mk, h⟩⟩
      · exact ⟨_, _, _, _, _, _, clmD3_run tok seg slot g priv got e A trivial, fun v m h => ⟨.mk, h⟩⟩
      · exact ⟨_, _, _, _, _, _, clmD4_run tok seg slot g priv got e A trivial, fun v m h => ⟨.mk, h⟩⟩
      · exact ⟨_, _, _, _, _, _, clmD5_run tok seg slot g priv got e A trivial, fun v m h => ⟨.mk, h⟩⟩
    · exact h.elim
theorem clm_place : MethodOk (E := XP) clmH 56 clmIs (fun x _ => placeV x) (fun x _ => x) (fun _ a => a) := by
  refine method_ok (H := clmH) ?_ ?_
  · rintro x o h
    unfold clmIs at h
    split at h
    · exact ⟨rfl, rfl, rfl⟩
    · exact h.elim
  · rintro ⟨ph, tok, seg, slot, g, priv, got, e⟩ o h z
    unfold clmIs at h
    split at h
    · rename_i A
      dsimp only at h
      cases z
      rcases (by omega : ph = 0 ∨ ph = 1 ∨ ph = 2 ∨ ph = 3 ∨ ph = 4 ∨ ph = 5) with rfl | rfl | rfl | rfl | rfl | rfl
      · exact ⟨_, _, _, _, _, _, clmP0_run tok seg slot g priv got e A trivial, fun v m h => ⟨.mk, h⟩⟩
      · exact ⟨_, _, _, _, _, _, clmP1_run tok seg slot g priv got e A trivial, fun v m h => ⟨.mk, h⟩⟩
      · exact ⟨_, _, _, _, _, _, clmP2_run tok seg slot g priv got e A trivial, fun v m h => ⟨.mk, h⟩⟩
      · exact ⟨_, _, _, _, _, _, clmP3_run tok seg slot g priv got e A trivial, fun v m h => ⟨.mk, h⟩⟩
      · exact ⟨_, _, _, _, _, _, clmP4_run tok seg slot g priv got e A trivial, fun v m h => ⟨.mk, h⟩⟩
      · exact ⟨_, _, _, _, _, _, clmP5_run tok seg slot g priv got e A trivial, fun v m h => ⟨.mk, h⟩⟩
    · exact h.elim
def clmTok (t : Int) : XP.X → Prop
  | .obj [] _ => 0 < t
  | _ => False
def clm0 (t : Int) (_ : XP.X) : Clm := ⟨0, t.toNat, 0, 0, 0, 0, false, 0⟩
theorem clm_new : MadeOk1 (E := XP) clmH 54 clmTok clm0 := by
  refine made_ok1 (H := clmH) ?_ ?_
  · rintro t o h
    unfold clmTok at h
    split at h
    · rfl
    · exact h.elim
  · rintro t o h
    unfold clmTok at h
    split at h
    · rename_i A
      obtain ⟨n, rfl⟩ : ∃ n : Nat, t = n := ⟨t.toNat, by omega⟩
      exact ⟨_, _, _, _, _, _, clmN_run n A (by omega) trivial, fun v m h => ⟨.mk, h⟩⟩
    · exact h.elim
def clmNewX : Smry Try.prog XM := madeS1 _ clmTok clm0 clm_new
def clmStepX : Smry Try.prog XM := methodS _ clmOkX _ clmXF clmAF clm_step
def clmDoneX : Smry Try.prog XM := methodS _ clmIs _ _ _ clm_done
def clmPlaceX : Smry Try.prog XM := methodS _ clmIs _ _ _ clm_place
end Go.Proofs.Ytgiakcepgbpchaa
