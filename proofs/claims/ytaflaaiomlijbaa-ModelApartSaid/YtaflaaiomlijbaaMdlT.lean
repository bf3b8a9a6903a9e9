/- Two models compared, run. -/
import Derived.Test.YtaflaaiomlijbaaMdlS
set_option linter.all false
namespace Go.Proofs.Ytaflaaiomlijbaa
open Go Go.RowKit
set_option maxRecDepth 1000000
set_option maxHeartbeats 0
/-- What the executor leaves to be shown of roundelay/model.Same, written out. -/
theorem mdsame11_vc (ps ss : List (Int × Value)) (z : Nat) (ps' ss' : List (Int × Value)) (z2 : Nat) : (callN Try.prog ([mequalS, sequalS] : List (Smry Try.prog XN)) (fun _ _ => false) 100 20 36 [.c (.ptr 0 0), .c (.ptr 5 0)] ⟨mdHeap (⟨true, [], ps, ss⟩ : Md) z ++ renBy ren5 (mdHeap (⟨true, [], ps', ss'⟩ : Md) z2), 100⟩ (bN 4) (fun v m _ => outM (.c (.boo false (sameB (⟨true, [], ps, ss⟩ : Md) (⟨true, [], ps', ss'⟩ : Md)))) (mdHeap (⟨true, [], ps, ss⟩ : Md) z ++ renBy ren5 (mdHeap (⟨true, [], ps', ss'⟩ : Md) z2)) v m)) = (
    ((Md.mk true [] ps ss).ps = (Md.mk true [] ps ss).ps ∧ (Md.mk true [] ps ss).ss = (Md.mk true [] ps ss).ss ∧ (Md.mk true [] ps' ss').ps = (Md.mk true [] ps' ss').ps ∧ (Md.mk true []
    ps' ss').ss = (Md.mk true [] ps' ss').ss ∧ (true = true → (((∀ (y : Int × Value), List.Mem y (Md.mk true [] ps ss).ps → ∃ (n : Int), y.snd = Value.int IntKind.i64 n) ∧ ∀ (y : Int ×
    Value), List.Mem y (Md.mk true [] ps' ss').ps → ∃ (n : Int), y.snd = Value.int IntKind.i64 n) ∧ (Md.mk true [] ps ss).ps = (Md.mk true [] ps ss).ps ∧ (Md.mk true [] ps ss).ss =
    (Md.mk true [] ps ss).ss ∧ (Md.mk true [] ps' ss').ps = (Md.mk true [] ps' ss').ps ∧ (Md.mk true [] ps' ss').ss = (Md.mk true [] ps' ss').ss ∧ (mapsB (Md.mk true [] ps ss).ps (Md.mk
    true [] ps' ss').ps = true → (((∀ (y : Int × Value), List.Mem y (Md.mk true [] ps ss).ss → ∃ (n : Int), y.snd = Value.int IntKind.i64 n) ∧ ∀ (y : Int × Value), List.Mem y (Md.mk
    true [] ps' ss').ss → ∃ (n : Int), y.snd = Value.int IntKind.i64 n) ∧ (Md.mk true [] ps ss).ps = (Md.mk true [] ps ss).ps ∧ (Md.mk true [] ps ss).ss = (Md.mk true [] ps ss).ss ∧
    (Md.mk true [] ps' ss').ps = (Md.mk true [] ps' ss').ps ∧ (Md.mk true [] ps' ss').ss = (Md.mk true [] ps' ss').ss ∧ sameB (Md.mk true [] ps ss) (Md.mk true [] ps' ss') = mapsB
    (Md.mk true [] ps ss).ss (Md.mk true [] ps' ss').ss ∧ (True ∧ True ∧ True ∧ True) ∧ (Md.mk true [] ps ss).ps = (Md.mk true [] ps ss).ps ∧ (Md.mk true [] ps ss).ss = (Md.mk true []
    ps ss).ss ∧ (True ∧ True ∧ True ∧ True) ∧ (Md.mk true [] ps' ss').ps = (Md.mk true [] ps' ss').ps ∧ (Md.mk true [] ps' ss').ss = (Md.mk true [] ps' ss').ss ∧ True) ∧ True) ∧ (mapsB
    (Md.mk true [] ps ss).ps (Md.mk true [] ps' ss').ps = false → sameB (Md.mk true [] ps ss) (Md.mk true [] ps' ss') = false ∧ (True ∧ True ∧ True ∧ True) ∧ (Md.mk true [] ps ss).ps =
    (Md.mk true [] ps ss).ps ∧ (Md.mk true [] ps ss).ss = (Md.mk true [] ps ss).ss ∧ (True ∧ True ∧ True ∧ True) ∧ (Md.mk true [] ps' ss').ps = (Md.mk true [] ps' ss').ps ∧ (Md.mk true
    [] ps' ss').ss = (Md.mk true [] ps' ss').ss ∧ True)) ∧ True) ∧ (true = false → sameB (Md.mk true [] ps ss) (Md.mk true [] ps' ss') = false ∧ (True ∧ True ∧ True ∧ True) ∧ (Md.mk
    true [] ps ss).ps = (Md.mk true [] ps ss).ps ∧ (Md.mk true [] ps ss).ss = (Md.mk true [] ps ss).ss ∧ (True ∧ True ∧ True ∧ True) ∧ (Md.mk true [] ps' ss').ps = (Md.mk true [] ps'
    ss').ps ∧ (Md.mk true [] ps' ss').ss = (Md.mk true [] ps' ss').ss ∧ True)) ∧ True) := by
  kernel_rfl
theorem mdsame11_run (ps ss : List (Int × Value)) (z : Nat) (ps' ss' : List (Int × Value)) (z2 : Nat) (hc : MdOk (⟨true, [], ps, ss⟩ : Md) ∧ MdOk (⟨true, [], ps', ss'⟩ : Md)) : Run (callN Try.prog ([mequalS, sequalS] : List (Smry Try.prog XN)) (fun _ _ => false) 100 20 36 [.c (.ptr 0 0), .c (.ptr 5 0)] ⟨mdHeap (⟨true, [], ps, ss⟩ : Md) z ++ renBy ren5 (mdHeap (⟨true, [], ps', ss'⟩ : Md) z2), 100⟩ (bN 4) (fun v m _ => outM (.c (.boo false (sameB (⟨true, [], ps, ss⟩ : Md) (⟨true, [], ps', ss'⟩ : Md)))) (mdHeap (⟨true, [], ps, ss⟩ : Md) z ++ renBy ren5 (mdHeap (⟨true, [], ps', ss'⟩ : Md) z2)) v m)) := by
  constructor
  rw [mdsame11_vc]
  obtain ⟨hx, hy⟩ := hc
  have a1 := hx.ps.ints
  have a2 := hx.ss.ints
  have a3 := hy.ps.ints
  have a4 := hy.ss.ints
  have l1 := hx.ql
  have l2 := hy.ql
  repeat' first
    | with_reducible apply And.intro
    | with_reducible exact trivial
    | with_reducible exact Eq.refl _
    | exact a1
    | exact a2
    | exact a3
    | exact a4
    | intro _
  all_goals first
    | exact a1
    | exact a2
    | exact a3
    | exact a4
    | with_reducible exact Eq.refl _
    | (dsimp only at l1 l2 ⊢; omega)
    | (simp_all [sameB]; done)
    | (simp_all [sameB, rowsB]; done)
    | (simp_all [sameB, rowsB]; intro _ x hx; rw [← ‹_ = List.length _›] at hx; exact absurd hx (Nat.not_lt_zero _))
    | (simp_all [sameB, rowsB]; intro _ x hx; omega)
    | (simp_all [sameB, rowsB]; intros; omega)
/-- What the executor leaves to be shown of roundelay/model.Same, written out. -/
theorem mdsame12_vc (ps ss : List (Int × Value)) (z : Nat) (q' : List Int) (ps' ss' : List (Int × Value)) (z2 : Nat) : (callN Try.prog ([mequalS, sequalS] : List (Smry Try.prog XN)) (fun _ _ => false) 100 20 36 [.c (.ptr 0 0), .c (.ptr 5 0)] ⟨mdHeap (⟨true, [], ps, ss⟩ : Md) z ++ renBy ren5 (mdHeap (⟨false, q', ps', ss'⟩ : Md) z2), 100⟩ (bN 4) (fun v m _ => outM (.c (.boo false (sameB (⟨true, [], ps, ss⟩ : Md) (⟨false, q', ps', ss'⟩ : Md)))) (mdHeap (⟨true, [], ps, ss⟩ : Md) z ++ renBy ren5 (mdHeap (⟨false, q', ps', ss'⟩ : Md) z2)) v m)) = (
    ((OfNat.ofNat (3 : Nat) = OfNat.ofNat (3 : Nat) ∧ (Md.mk false q' ps' ss').q.length = (Md.mk false q' ps' ss').q.length ∧ z2 = z2) ∧ (Md.mk true [] ps ss).ps = (Md.mk true [] ps
    ss).ps ∧ (Md.mk true [] ps ss).ss = (Md.mk true [] ps ss).ss ∧ (0 : Nat) = (0 : Nat) ∧ (Md.mk false q' ps' ss').q.length = (Md.mk false q' ps' ss').q.length ∧ z2 = z2 ∧ (Md.mk false
    q' ps' ss').ps = (Md.mk false q' ps' ss').ps ∧ (Md.mk false q' ps' ss').ss = (Md.mk false q' ps' ss').ss ∧ (Md.mk false q' ps' ss').q.length = (Md.mk false q' ps' ss').q.length ∧ z2
    = z2 ∧ qF (Md.mk false q' ps' ss').q = qF (Md.mk false q' ps' ss').q ∧ (Nat.beq (OfNat.ofNat (0 : Nat)) (Md.mk false q' ps' ss').q.length = true → (((∀ (y : Int × Value), List.Mem y
    (Md.mk true [] ps ss).ps → ∃ (n : Int), y.snd = Value.int IntKind.i64 n) ∧ ∀ (y : Int × Value), List.Mem y (Md.mk false q' ps' ss').ps → ∃ (n : Int), y.snd = Value.int IntKind.i64
    n) ∧ (Md.mk true [] ps ss).ps = (Md.mk true [] ps ss).ps ∧ (Md.mk true [] ps ss).ss = (Md.mk true [] ps ss).ss ∧ (0 : Nat) = (0 : Nat) ∧ (Md.mk false q' ps' ss').q.length = (Md.mk
    false q' ps' ss').q.length ∧ z2 = z2 ∧ (Md.mk false q' ps' ss').ps = (Md.mk false q' ps' ss').ps ∧ (Md.mk false q' ps' ss').ss = (Md.mk false q' ps' ss').ss ∧ (Md.mk false q' ps'
    ss').q.length = (Md.mk false q' ps' ss').q.length ∧ z2 = z2 ∧ qF (Md.mk false q' ps' ss').q = qF (Md.mk false q' ps' ss').q ∧ (mapsB (Md.mk true [] ps ss).ps (Md.mk false q' ps'
    ss').ps = true → (((∀ (y : Int × Value), List.Mem y (Md.mk true [] ps ss).ss → ∃ (n : Int), y.snd = Value.int IntKind.i64 n) ∧ ∀ (y : Int × Value), List.Mem y (Md.mk false q' ps'
    ss').ss → ∃ (n : Int), y.snd = Value.int IntKind.i64 n) ∧ (Md.mk true [] ps ss).ps = (Md.mk true [] ps ss).ps ∧ (Md.mk true [] ps ss).ss = (Md.mk true [] ps ss).ss ∧ (0 : Nat) = (0
    : Nat) ∧ (Md.mk false q' ps' ss').q.length = (Md.mk false q' ps' ss').q.length ∧ z2 = z2 ∧ (Md.mk false q' ps' ss').ps = (Md.mk false q' ps' ss').ps ∧ (Md.mk false q' ps' ss').ss =
    (Md.mk false q' ps' ss').ss ∧ (Md.mk false q' ps' ss').q.length = (Md.mk false q' ps' ss').q.length ∧ z2 = z2 ∧ qF (Md.mk false q' ps' ss').q = qF (Md.mk false q' ps' ss').q ∧ sameB
    (Md.mk true [] ps ss) (Md.mk false q' ps' ss') = mapsB (Md.mk true [] ps ss).ss (Md.mk false q' ps' ss').ss ∧ (True ∧ True ∧ True ∧ True) ∧ (Md.mk true [] ps ss).ps = (Md.mk true []
    ps ss).ps ∧ (Md.mk true [] ps ss).ss = (Md.mk true [] ps ss).ss ∧ (((0 : Nat) = (0 : Nat) ∧ (Md.mk false q' ps' ss').q.length = (Md.mk false q' ps' ss').q.length ∧ z2 = z2) ∧ True ∧
    True ∧ True) ∧ (Md.mk false q' ps' ss').ps = (Md.mk false q' ps' ss').ps ∧ (Md.mk false q' ps' ss').ss = (Md.mk false q' ps' ss').ss ∧ ((Md.mk false q' ps' ss').q.length = (Md.mk
    false q' ps' ss').q.length ∧ z2 = z2 ∧ ∀ (i : Nat), i < (Md.mk false q' ps' ss').q.length → qF (Md.mk false q' ps' ss').q i = qF (Md.mk false q' ps' ss').q i) ∧ True) ∧ True) ∧
    (mapsB (Md.mk true [] ps ss).ps (Md.mk false q' ps' ss').ps = false → sameB (Md.mk true [] ps ss) (Md.mk false q' ps' ss') = false ∧ (True ∧ True ∧ True ∧ True) ∧ (Md.mk true [] ps
    ss).ps = (Md.mk true [] ps ss).ps ∧ (Md.mk true [] ps ss).ss = (Md.mk true [] ps ss).ss ∧ (((0 : Nat) = (0 : Nat) ∧ (Md.mk false q' ps' ss').q.length = (Md.mk false q' ps'
    ss').q.length ∧ z2 = z2) ∧ True ∧ True ∧ True) ∧ (Md.mk false q' ps' ss').ps = (Md.mk false q' ps' ss').ps ∧ (Md.mk false q' ps' ss').ss = (Md.mk false q' ps' ss').ss ∧ ((Md.mk
    false q' ps' ss').q.length = (Md.mk false q' ps' ss').q.length ∧ z2 = z2 ∧ ∀ (i : Nat), i < (Md.mk false q' ps' ss').q.length → qF (Md.mk false q' ps' ss').q i = qF (Md.mk false q'
    ps' ss').q i) ∧ True)) ∧ True) ∧ (Nat.beq (OfNat.ofNat (0 : Nat)) (Md.mk false q' ps' ss').q.length = false → sameB (Md.mk true [] ps ss) (Md.mk false q' ps' ss') = false ∧ (True ∧
    True ∧ True ∧ True) ∧ (Md.mk true [] ps ss).ps = (Md.mk true [] ps ss).ps ∧ (Md.mk true [] ps ss).ss = (Md.mk true [] ps ss).ss ∧ (((0 : Nat) = (0 : Nat) ∧ (Md.mk false q' ps'
    ss').q.length = (Md.mk false q' ps' ss').q.length ∧ z2 = z2) ∧ True ∧ True ∧ True) ∧ (Md.mk false q' ps' ss').ps = (Md.mk false q' ps' ss').ps ∧ (Md.mk false q' ps' ss').ss = (Md.mk
    false q' ps' ss').ss ∧ ((Md.mk false q' ps' ss').q.length = (Md.mk false q' ps' ss').q.length ∧ z2 = z2 ∧ ∀ (i : Nat), i < (Md.mk false q' ps' ss').q.length → qF (Md.mk false q' ps'
    ss').q i = qF (Md.mk false q' ps' ss').q i) ∧ True)) ∧ True) := by
  kernel_rfl
theorem mdsame12_run (ps ss : List (Int × Value)) (z : Nat) (q' : List Int) (ps' ss' : List (Int × Value)) (z2 : Nat) (hc : MdOk (⟨true, [], ps, ss⟩ : Md) ∧ MdOk (⟨false, q', ps', ss'⟩ : Md)) : Run (callN Try.prog ([mequalS, sequalS] : List (Smry Try.prog XN)) (fun _ _ => false) 100 20 36 [.c (.ptr 0 0), .c (.ptr 5 0)] ⟨mdHeap (⟨true, [], ps, ss⟩ : Md) z ++ renBy ren5 (mdHeap (⟨false, q', ps', ss'⟩ : Md) z2), 100⟩ (bN 4) (fun v m _ => outM (.c (.boo false (sameB (⟨true, [], ps, ss⟩ : Md) (⟨false, q', ps', ss'⟩ : Md)))) (mdHeap (⟨true, [], ps, ss⟩ : Md) z ++ renBy ren5 (mdHeap (⟨false, q', ps', ss'⟩ : Md) z2)) v m)) := by
  constructor
  rw [mdsame12_vc]
  obtain ⟨hx, hy⟩ := hc
  have a1 := hx.ps.ints
  have a2 := hx.ss.ints
  have a3 := hy.ps.ints
  have a4 := hy.ss.ints
  have l1 := hx.ql
  have l2 := hy.ql
  repeat' first
    | with_reducible apply And.intro
    | with_reducible exact trivial
    | with_reducible exact Eq.refl _
    | exact a1
    | exact a2
    | exact a3
    | exact a4
    | intro _
  all_goals first
    | exact a1
    | exact a2
    | exact a3
    | exact a4
    | with_reducible exact Eq.refl _
    | (dsimp only at l1 l2 ⊢; omega)
    | (simp_all [sameB]; done)
    | (simp_all [sameB, rowsB]; done)
    | (simp_all [sameB, rowsB]; intro _ x hx; rw [← ‹_ = List.length _›] at hx; exact absurd hx (Nat.not_lt_zero _))
    | (simp_all [sameB, rowsB]; intro _ x hx; omega)
    | (simp_all [sameB, rowsB]; intros; omega)
/-- What the executor leaves to be shown of roundelay/model.Same, written out. -/
theorem mdsame21_vc (q : List Int) (ps ss : List (Int × Value)) (z : Nat) (ps' ss' : List (Int × Value)) (z2 : Nat) : (callN Try.prog ([mequalS, sequalS] : List (Smry Try.prog XN)) (fun _ _ => false) 100 20 36 [.c (.ptr 0 0), .c (.ptr 5 0)] ⟨mdHeap (⟨false, q, ps, ss⟩ : Md) z ++ renBy ren5 (mdHeap (⟨true, [], ps', ss'⟩ : Md) z2), 100⟩ (bN 4) (fun v m _ => outM (.c (.boo false (sameB (⟨false, q, ps, ss⟩ : Md) (⟨true, [], ps', ss'⟩ : Md)))) (mdHeap (⟨false, q, ps, ss⟩ : Md) z ++ renBy ren5 (mdHeap (⟨true, [], ps', ss'⟩ : Md) z2)) v m)) = (
    ((OfNat.ofNat (3 : Nat) = OfNat.ofNat (3 : Nat) ∧ (Md.mk false q ps ss).q.length = (Md.mk false q ps ss).q.length ∧ z = z) ∧ (0 : Nat) = (0 : Nat) ∧ (Md.mk false q ps ss).q.length =
    (Md.mk false q ps ss).q.length ∧ z = z ∧ (Md.mk false q ps ss).ps = (Md.mk false q ps ss).ps ∧ (Md.mk false q ps ss).ss = (Md.mk false q ps ss).ss ∧ (Md.mk false q ps ss).q.length =
    (Md.mk false q ps ss).q.length ∧ z = z ∧ qF (Md.mk false q ps ss).q = qF (Md.mk false q ps ss).q ∧ (Md.mk true [] ps' ss').ps = (Md.mk true [] ps' ss').ps ∧ (Md.mk true [] ps'
    ss').ss = (Md.mk true [] ps' ss').ss ∧ ((Md.mk false q ps ss).q.length.beq (OfNat.ofNat (0 : Nat)) = true → (((∀ (y : Int × Value), List.Mem y (Md.mk false q ps ss).ps → ∃ (n :
    Int), y.snd = Value.int IntKind.i64 n) ∧ ∀ (y : Int × Value), List.Mem y (Md.mk true [] ps' ss').ps → ∃ (n : Int), y.snd = Value.int IntKind.i64 n) ∧ (0 : Nat) = (0 : Nat) ∧ (Md.mk
    false q ps ss).q.length = (Md.mk false q ps ss).q.length ∧ z = z ∧ (Md.mk false q ps ss).ps = (Md.mk false q ps ss).ps ∧ (Md.mk false q ps ss).ss = (Md.mk false q ps ss).ss ∧ (Md.mk
    false q ps ss).q.length = (Md.mk false q ps ss).q.length ∧ z = z ∧ qF (Md.mk false q ps ss).q = qF (Md.mk false q ps ss).q ∧ (Md.mk true [] ps' ss').ps = (Md.mk true [] ps' ss').ps
    ∧ (Md.mk true [] ps' ss').ss = (Md.mk true [] ps' ss').ss ∧ (mapsB (Md.mk false q ps ss).ps (Md.mk true [] ps' ss').ps = true → (((∀ (y : Int × Value), List.Mem y (Md.mk false q ps
    ss).ss → ∃ (n : Int), y.snd = Value.int IntKind.i64 n) ∧ ∀ (y : Int × Value), List.Mem y (Md.mk true [] ps' ss').ss → ∃ (n : Int), y.snd = Value.int IntKind.i64 n) ∧ (0 : Nat) = (0
    : Nat) ∧ (Md.mk false q ps ss).q.length = (Md.mk false q ps ss).q.length ∧ z = z ∧ (Md.mk false q ps ss).ps = (Md.mk false q ps ss).ps ∧ (Md.mk false q ps ss).ss = (Md.mk false q ps
    ss).ss ∧ (Md.mk false q ps ss).q.length = (Md.mk false q ps ss).q.length ∧ z = z ∧ qF (Md.mk false q ps ss).q = qF (Md.mk false q ps ss).q ∧ (Md.mk true [] ps' ss').ps = (Md.mk true
    [] ps' ss').ps ∧ (Md.mk true [] ps' ss').ss = (Md.mk true [] ps' ss').ss ∧ sameB (Md.mk false q ps ss) (Md.mk true [] ps' ss') = mapsB (Md.mk false q ps ss).ss (Md.mk true [] ps'
    ss').ss ∧ (((0 : Nat) = (0 : Nat) ∧ (Md.mk false q ps ss).q.length = (Md.mk false q ps ss).q.length ∧ z = z) ∧ True ∧ True ∧ True) ∧ (Md.mk false q ps ss).ps = (Md.mk false q ps
    ss).ps ∧ (Md.mk false q ps ss).ss = (Md.mk false q ps ss).ss ∧ ((Md.mk false q ps ss).q.length = (Md.mk false q ps ss).q.length ∧ z = z ∧ ∀ (i : Nat), i < (Md.mk false q ps
    ss).q.length → qF (Md.mk false q ps ss).q i = qF (Md.mk false q ps ss).q i) ∧ (True ∧ True ∧ True ∧ True) ∧ (Md.mk true [] ps' ss').ps = (Md.mk true [] ps' ss').ps ∧ (Md.mk true []
    ps' ss').ss = (Md.mk true [] ps' ss').ss ∧ True) ∧ True) ∧ (mapsB (Md.mk false q ps ss).ps (Md.mk true [] ps' ss').ps = false → sameB (Md.mk false q ps ss) (Md.mk true [] ps' ss') =
    false ∧ (((0 : Nat) = (0 : Nat) ∧ (Md.mk false q ps ss).q.length = (Md.mk false q ps ss).q.length ∧ z = z) ∧ True ∧ True ∧ True) ∧ (Md.mk false q ps ss).ps = (Md.mk false q ps
    ss).ps ∧ (Md.mk false q ps ss).ss = (Md.mk false q ps ss).ss ∧ ((Md.mk false q ps ss).q.length = (Md.mk false q ps ss).q.length ∧ z = z ∧ ∀ (i : Nat), i < (Md.mk false q ps
    ss).q.length → qF (Md.mk false q ps ss).q i = qF (Md.mk false q ps ss).q i) ∧ (True ∧ True ∧ True ∧ True) ∧ (Md.mk true [] ps' ss').ps = (Md.mk true [] ps' ss').ps ∧ (Md.mk true []
    ps' ss').ss = (Md.mk true [] ps' ss').ss ∧ True)) ∧ True) ∧ ((Md.mk false q ps ss).q.length.beq (OfNat.ofNat (0 : Nat)) = false → sameB (Md.mk false q ps ss) (Md.mk true [] ps' ss')
    = false ∧ (((0 : Nat) = (0 : Nat) ∧ (Md.mk false q ps ss).q.length = (Md.mk false q ps ss).q.length ∧ z = z) ∧ True ∧ True ∧ True) ∧ (Md.mk false q ps ss).ps = (Md.mk false q ps
    ss).ps ∧ (Md.mk false q ps ss).ss = (Md.mk false q ps ss).ss ∧ ((Md.mk false q ps ss).q.length = (Md.mk false q ps ss).q.length ∧ z = z ∧ ∀ (i : Nat), i < (Md.mk false q ps
    ss).q.length → qF (Md.mk false q ps ss).q i = qF (Md.mk false q ps ss).q i) ∧ (True ∧ True ∧ True ∧ True) ∧ (Md.mk true [] ps' ss').ps = (Md.mk true [] ps' ss').ps ∧ (Md.mk true []
    ps' ss').ss = (Md.mk true [] ps' ss').ss ∧ True)) ∧ True) := by
  kernel_rfl
theorem mdsame21_run (q : List Int) (ps ss : List (Int × Value)) (z : Nat) (ps' ss' : List (Int × Value)) (z2 : Nat) (hc : MdOk (⟨false, q, ps, ss⟩ : Md) ∧ MdOk (⟨true, [], ps', ss'⟩ : Md)) : Run (callN Try.prog ([mequalS, sequalS] : List (Smry Try.prog XN)) (fun _ _ => false) 100 20 36 [.c (.ptr 0 0), .c (.ptr 5 0)] ⟨mdHeap (⟨false, q, ps, ss⟩ : Md) z ++ renBy ren5 (mdHeap (⟨true, [], ps', ss'⟩ : Md) z2), 100⟩ (bN 4) (fun v m _ => outM (.c (.boo false (sameB (⟨false, q, ps, ss⟩ : Md) (⟨true, [], ps', ss'⟩ : Md)))) (mdHeap (⟨false, q, ps, ss⟩ : Md) z ++ renBy ren5 (mdHeap (⟨true, [], ps', ss'⟩ : Md) z2)) v m)) := by
  constructor
  rw [mdsame21_vc]
  obtain ⟨hx, hy⟩ := hc
  have a1 := hx.ps.ints
  have a2 := hx.ss.ints
  have a3 := hy.ps.ints
  have a4 := hy.ss.ints
  have l1 := hx.ql
  have l2 := hy.ql
  repeat' first
    | with_reducible apply And.intro
    | with_reducible exact trivial
    | with_reducible exact Eq.refl _
    | exact a1
    | exact a2
    | exact a3
    | exact a4
    | intro _
  all_goals first
    | exact a1
    | exact a2
    | exact a3
    | exact a4
    | with_reducible exact Eq.refl _
    | (dsimp only at l1 l2 ⊢; omega)
    | (simp_all [sameB]; done)
    | (simp_all [sameB, rowsB]; done)
    | (simp_all [sameB, rowsB]; intro _ x hx; rw [← ‹_ = List.length _›] at hx; exact absurd hx (Nat.not_lt_zero _))
    | (simp_all [sameB, rowsB]; intro _ x hx; omega)
    | (simp_all [sameB, rowsB]; intros; omega)
/-- What the executor leaves to be shown of roundelay/model.Same, written out. -/
theorem mdsame22_vc (q : List Int) (ps ss : List (Int × Value)) (z : Nat) (q' : List Int) (ps' ss' : List (Int × Value)) (z2 : Nat) : (callN Try.prog ([mequalS, sequalS] : List (Smry Try.prog XN)) (fun _ _ => false) 100 20 36 [.c (.ptr 0 0), .c (.ptr 5 0)] ⟨mdHeap (⟨false, q, ps, ss⟩ : Md) z ++ renBy ren5 (mdHeap (⟨false, q', ps', ss'⟩ : Md) z2), 100⟩ (bN 4) (fun v m _ => outM (.c (.boo false (sameB (⟨false, q, ps, ss⟩ : Md) (⟨false, q', ps', ss'⟩ : Md)))) (mdHeap (⟨false, q, ps, ss⟩ : Md) z ++ renBy ren5 (mdHeap (⟨false, q', ps', ss'⟩ : Md) z2)) v m)) = (
    (((Md.mk false q ps ss).q.length ≤ (1000000 : Nat) ∧ OfNat.ofNat (3 : Nat) = OfNat.ofNat (3 : Nat) ∧ (Md.mk false q ps ss).q.length = (Md.mk false q ps ss).q.length ∧ z = z ∧
    OfNat.ofNat (3 : Nat) = OfNat.ofNat (3 : Nat) ∧ (Md.mk false q' ps' ss').q.length = (Md.mk false q' ps' ss').q.length ∧ z2 = z2) ∧ (0 : Nat) = (0 : Nat) ∧ (Md.mk false q ps
    ss).q.length = (Md.mk false q ps ss).q.length ∧ z = z ∧ (Md.mk false q ps ss).ps = (Md.mk false q ps ss).ps ∧ (Md.mk false q ps ss).ss = (Md.mk false q ps ss).ss ∧ (Md.mk false q ps
    ss).q.length = (Md.mk false q ps ss).q.length ∧ z = z ∧ qF (Md.mk false q ps ss).q = qF (Md.mk false q ps ss).q ∧ (0 : Nat) = (0 : Nat) ∧ (Md.mk false q' ps' ss').q.length = (Md.mk
    false q' ps' ss').q.length ∧ z2 = z2 ∧ (Md.mk false q' ps' ss').ps = (Md.mk false q' ps' ss').ps ∧ (Md.mk false q' ps' ss').ss = (Md.mk false q' ps' ss').ss ∧ (Md.mk false q' ps'
    ss').q.length = (Md.mk false q' ps' ss').q.length ∧ z2 = z2 ∧ qF (Md.mk false q' ps' ss').q = qF (Md.mk false q' ps' ss').q ∧ (rowsB (Md.mk false q ps ss).q.length (qF (Md.mk false
    q ps ss).q) (Md.mk false q' ps' ss').q.length (qF (Md.mk false q' ps' ss').q) = true → (((∀ (y : Int × Value), List.Mem y (Md.mk false q ps ss).ps → ∃ (n : Int), y.snd = Value.int
    IntKind.i64 n) ∧ ∀ (y : Int × Value), List.Mem y (Md.mk false q' ps' ss').ps → ∃ (n : Int), y.snd = Value.int IntKind.i64 n) ∧ (0 : Nat) = (0 : Nat) ∧ (Md.mk false q ps ss).q.length
    = (Md.mk false q ps ss).q.length ∧ z = z ∧ (Md.mk false q ps ss).ps = (Md.mk false q ps ss).ps ∧ (Md.mk false q ps ss).ss = (Md.mk false q ps ss).ss ∧ (Md.mk false q ps ss).q.length
    = (Md.mk false q ps ss).q.length ∧ z = z ∧ qF (Md.mk false q ps ss).q = qF (Md.mk false q ps ss).q ∧ (0 : Nat) = (0 : Nat) ∧ (Md.mk false q' ps' ss').q.length = (Md.mk false q' ps'
    ss').q.length ∧ z2 = z2 ∧ (Md.mk false q' ps' ss').ps = (Md.mk false q' ps' ss').ps ∧ (Md.mk false q' ps' ss').ss = (Md.mk false q' ps' ss').ss ∧ (Md.mk false q' ps' ss').q.length =
    (Md.mk false q' ps' ss').q.length ∧ z2 = z2 ∧ qF (Md.mk false q' ps' ss').q = qF (Md.mk false q' ps' ss').q ∧ (mapsB (Md.mk false q ps ss).ps (Md.mk false q' ps' ss').ps = true →
    (((∀ (y : Int × Value), List.Mem y (Md.mk false q ps ss).ss → ∃ (n : Int), y.snd = Value.int IntKind.i64 n) ∧ ∀ (y : Int × Value), List.Mem y (Md.mk false q' ps' ss').ss → ∃ (n :
    Int), y.snd = Value.int IntKind.i64 n) ∧ (0 : Nat) = (0 : Nat) ∧ (Md.mk false q ps ss).q.length = (Md.mk false q ps ss).q.length ∧ z = z ∧ (Md.mk false q ps ss).ps = (Md.mk false q
    ps ss).ps ∧ (Md.mk false q ps ss).ss = (Md.mk false q ps ss).ss ∧ (Md.mk false q ps ss).q.length = (Md.mk false q ps ss).q.length ∧ z = z ∧ qF (Md.mk false q ps ss).q = qF (Md.mk
    false q ps ss).q ∧ (0 : Nat) = (0 : Nat) ∧ (Md.mk false q' ps' ss').q.length = (Md.mk false q' ps' ss').q.length ∧ z2 = z2 ∧ (Md.mk false q' ps' ss').ps = (Md.mk false q' ps'
    ss').ps ∧ (Md.mk false q' ps' ss').ss = (Md.mk false q' ps' ss').ss ∧ (Md.mk false q' ps' ss').q.length = (Md.mk false q' ps' ss').q.length ∧ z2 = z2 ∧ qF (Md.mk false q' ps' ss').q
    = qF (Md.mk false q' ps' ss').q ∧ sameB (Md.mk false q ps ss) (Md.mk false q' ps' ss') = mapsB (Md.mk false q ps ss).ss (Md.mk false q' ps' ss').ss ∧ (((0 : Nat) = (0 : Nat) ∧
    (Md.mk false q ps ss).q.length = (Md.mk false q ps ss).q.length ∧ z = z) ∧ True ∧ True ∧ True) ∧ (Md.mk false q ps ss).ps = (Md.mk false q ps ss).ps ∧ (Md.mk false q ps ss).ss =
    (Md.mk false q ps ss).ss ∧ ((Md.mk false q ps ss).q.length = (Md.mk false q ps ss).q.length ∧ z = z ∧ ∀ (i : Nat), i < (Md.mk false q ps ss).q.length → qF (Md.mk false q ps ss).q i
    = qF (Md.mk false q ps ss).q i) ∧ (((0 : Nat) = (0 : Nat) ∧ (Md.mk false q' ps' ss').q.length = (Md.mk false q' ps' ss').q.length ∧ z2 = z2) ∧ True ∧ True ∧ True) ∧ (Md.mk false q'
    ps' ss').ps = (Md.mk false q' ps' ss').ps ∧ (Md.mk false q' ps' ss').ss = (Md.mk false q' ps' ss').ss ∧ ((Md.mk false q' ps' ss').q.length = (Md.mk false q' ps' ss').q.length ∧ z2 =
    z2 ∧ ∀ (i : Nat), i < (Md.mk false q' ps' ss').q.length → qF (Md.mk false q' ps' ss').q i = qF (Md.mk false q' ps' ss').q i) ∧ True) ∧ True) ∧ (mapsB (Md.mk false q ps ss).ps (Md.mk
    false q' ps' ss').ps = false → sameB (Md.mk false q ps ss) (Md.mk false q' ps' ss') = false ∧ (((0 : Nat) = (0 : Nat) ∧ (Md.mk false q ps ss).q.length = (Md.mk false q ps
    ss).q.length ∧ z = z) ∧ True ∧ True ∧ True) ∧ (Md.mk false q ps ss).ps = (Md.mk false q ps ss).ps ∧ (Md.mk false q ps ss).ss = (Md.mk false q ps ss).ss ∧ ((Md.mk false q ps
    ss).q.length = (Md.mk false q ps ss).q.length ∧ z = z ∧ ∀ (i : Nat), i < (Md.mk false q ps ss).q.length → qF (Md.mk false q ps ss).q i = qF (Md.mk false q ps ss).q i) ∧ (((0 : Nat)
    = (0 : Nat) ∧ (Md.mk false q' ps' ss').q.length = (Md.mk false q' ps' ss').q.length ∧ z2 = z2) ∧ True ∧ True ∧ True) ∧ (Md.mk false q' ps' ss').ps = (Md.mk false q' ps' ss').ps ∧
    (Md.mk false q' ps' ss').ss = (Md.mk false q' ps' ss').ss ∧ ((Md.mk false q' ps' ss').q.length = (Md.mk false q' ps' ss').q.length ∧ z2 = z2 ∧ ∀ (i : Nat), i < (Md.mk false q' ps'
    ss').q.length → qF (Md.mk false q' ps' ss').q i = qF (Md.mk false q' ps' ss').q i) ∧ True)) ∧ True) ∧ (rowsB (Md.mk false q ps ss).q.length (qF (Md.mk false q ps ss).q) (Md.mk false
    q' ps' ss').q.length (qF (Md.mk false q' ps' ss').q) = false → sameB (Md.mk false q ps ss) (Md.mk false q' ps' ss') = false ∧ (((0 : Nat) = (0 : Nat) ∧ (Md.mk false q ps
    ss).q.length = (Md.mk false q ps ss).q.length ∧ z = z) ∧ True ∧ True ∧ True) ∧ (Md.mk false q ps ss).ps = (Md.mk false q ps ss).ps ∧ (Md.mk false q ps ss).ss = (Md.mk false q ps
    ss).ss ∧ ((Md.mk false q ps ss).q.length = (Md.mk false q ps ss).q.length ∧ z = z ∧ ∀ (i : Nat), i < (Md.mk false q ps ss).q.length → qF (Md.mk false q ps ss).q i = qF (Md.mk false
    q ps ss).q i) ∧ (((0 : Nat) = (0 : Nat) ∧ (Md.mk false q' ps' ss').q.length = (Md.mk false q' ps' ss').q.length ∧ z2 = z2) ∧ True ∧ True ∧ True) ∧ (Md.mk false q' ps' ss').ps =
    (Md.mk false q' ps' ss').ps ∧ (Md.mk false q' ps' ss').ss = (Md.mk false q' ps' ss').ss ∧ ((Md.mk false q' ps' ss').q.length = (Md.mk false q' ps' ss').q.length ∧ z2 = z2 ∧ ∀ (i :
    Nat), i < (Md.mk false q' ps' ss').q.length → qF (Md.mk false q' ps' ss').q i = qF (Md.mk false q' ps' ss').q i) ∧ True)) ∧ True) := by
  kernel_rfl
theorem mdsame22_run (q : List Int) (ps ss : List (Int × Value)) (z : Nat) (q' : List Int) (ps' ss' : List (Int × Value)) (z2 : Nat) (hc : MdOk (⟨false, q, ps, ss⟩ : Md) ∧ MdOk (⟨false, q', ps', ss'⟩ : Md)) : Run (callN Try.prog ([mequalS, sequalS] : List (Smry Try.prog XN)) (fun _ _ => false) 100 20 36 [.c (.ptr 0 0), .c (.ptr 5 0)] ⟨mdHeap (⟨false, q, ps, ss⟩ : Md) z ++ renBy ren5 (mdHeap (⟨false, q', ps', ss'⟩ : Md) z2), 100⟩ (bN 4) (fun v m _ => outM (.c (.boo false (sameB (⟨false, q, ps, ss⟩ : Md) (⟨false, q', ps', ss'⟩ : Md)))) (mdHeap (⟨false, q, ps, ss⟩ : Md) z ++ renBy ren5 (mdHeap (⟨false, q', ps', ss'⟩ : Md) z2)) v m)) := by
  constructor
  rw [mdsame22_vc]
  obtain ⟨hx, hy⟩ := hc
  have a1 := hx.ps.ints
  have a2 := hx.ss.ints
  have a3 := hy.ps.ints
  have a4 := hy.ss.ints
  have l1 := hx.ql
  have l2 := hy.ql
  repeat' first
    | with_reducible apply And.intro
    | with_reducible exact trivial
    | with_reducible exact Eq.refl _
    | exact a1
    | exact a2
    | exact a3
    | exact a4
    | intro _
  all_goals first
    | exact a1
    | exact a2
    | exact a3
    | exact a4
    | with_reducible exact Eq.refl _
    | (dsimp only at l1 l2 ⊢; omega)
    | (simp_all [sameB]; done)
    | (simp_all [sameB, rowsB]; done)
    | (simp_all [sameB, rowsB]; intro _ x hx; rw [← ‹_ = List.length _›] at hx; exact absurd hx (Nat.not_lt_zero _))
    | (simp_all [sameB, rowsB]; intro _ x hx; omega)
    | (simp_all [sameB, rowsB]; intros; omega)
end Go.Proofs.Ytaflaaiomlijbaa
