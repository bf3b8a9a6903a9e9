/- A model's functions, run: the greatest key below one, new ones, copies, sizes, comparisons. -/
import Derived.Test.YtaflaaiomlijbaaMdlR
set_option linter.all false
namespace Go.Proofs.Ytaflaaiomlijbaa
open Go Go.RowKit
set_option maxRecDepth 1000000
set_option maxHeartbeats 0
theorem atK_lookI (l : List (Int × Value)) (x : Int) : atK l x = lookI l x := rfl
theorem MapOk.ints {l : List (Int × Value)} (h : MapOk l) : AllInt .i64 l := fun x hx => by
  obtain ⟨n, hn, _, _⟩ := h.vals x hx
  exact ⟨n, hn⟩
theorem lookI_atK (l : List (Int × Value)) (x : Int) : lookI l x = atK l x := rfl
def floorI (l : List (Int × Value)) (k : Int) : Int × Int := if k < 0 then (1, 0) else floorF l k.toNat
theorem floorI_yes {l : List (Int × Value)} {k : Int} (h0 : 0 ≤ k) (h : (look l k).isSome = true) : floorI l k = (0, k * 1024 + atK l k) := by
  obtain ⟨n, rfl⟩ := Int.eq_ofNat_of_zero_le h0
  unfold floorI
  rw [if_neg (by omega), Int.toNat_natCast]
  cases n with
  | zero => unfold floorF; rw [if_pos (by exact h)]; rfl
  | succ n => unfold floorF; rw [if_pos h]
theorem floorI_no {l : List (Int × Value)} {k : Int} (h0 : 0 ≤ k) (h : (look l k).isSome = false) : floorI l k = floorI l (k - 1) := by
  obtain ⟨n, rfl⟩ := Int.eq_ofNat_of_zero_le h0
  have hn : ¬ (look l (n : Int)).isSome = true := by rw [h]; decide
  cases n with
  | zero =>
    have e1 : floorI l ((0 : Nat) : Int) = floorF l 0 := by unfold floorI; rw [if_neg (by omega)]; rfl
    have e2 : floorI l (((0 : Nat) : Int) - 1) = (1, 0) := by unfold floorI; rw [if_pos (by omega)]
    rw [e1, e2]
    unfold floorF
    rw [if_neg (by exact hn)]
  | succ n =>
    conv => lhs; unfold floorI
    rw [if_neg (by omega), Int.toNat_natCast]
    unfold floorF
    rw [if_neg hn]
    unfold floorI
    rw [if_neg (by omega), show ((n + 1 : Nat) : Int) - 1 = (n : Int) by omega, Int.toNat_natCast]
abbrev FlY (l : List (Int × Value)) (key : Int) : Type := {j : Int // -1 ≤ j ∧ j ≤ key ∧ floorI l j = floorI l key}
def sameB (m n : Md) : Bool := rowsB m.q.length (qF m.q) n.q.length (qF n.q) && mapsB m.ps n.ps && mapsB m.ss n.ss
def selMd (h : SH XN) : Nat := match h.get 0 with
  | some (.cells (.nls :: _) _) => 0
  | _ => 1
def mdPost (res : SV) (y : Md) (v : SV) (m : Mem XN) : Prop := forceN (selMd m.hp) fun n => match n with
  | 0 => (y.nilq = true ∧ y.q = []) ∧ outM res (mdHeap ⟨true, [], y.ps, y.ss⟩ 0) v m
  | _ => y.nilq = false ∧ ∃ z', outM res (mdHeap ⟨false, y.q, y.ps, y.ss⟩ z') v m
def respV (r : Int × Int) : SV := .agg [.int false .i64 r.1, .int false .i64 r.2]
def flS (l : List (Int × Value)) (key : Int) : Scr XN := .inv (liveL [0, 1, 4, 5, 6, 7]) [] (FlY l key) (fun _ y => ([(5, .c (.int false .i64 y.1))], [])) (fun y => (y.1 + 1).toNat) fun _ => bN 3
/-- What the executor leaves to be shown of (*roundelay/model.Model).floor, written out. -/
theorem floor_vc (v0 v2 : Value) (l : List (Int × Value)) (key : Int) : (callN Try.prog ([] : List (Smry Try.prog XN)) (fun _ _ => false) 100 20 101 [.c (.ptr 0 0), .c (.int false .i64 key)] ⟨[(0, .cells [.raw v0, .map 1, .raw v2] 145), (1, .mp false l)], 100⟩ (flS l key) (fun v m _ => outM (.agg [.int false .i64 (floorI l key).1, .int false .i64 (floorI l key).2]) [(0, .cells [.raw v0, .map 1, .raw v2] 145), (1, .mp false l)] v m)) = (
    (∃ (y : FlY l key), key = key ∧ v0 = v0 ∧ v2 = v2 ∧ l = l ∧ y.val = key ∧ True) ∧ ∀ (y : FlY l key) (ρ : Nat → Value), (decide (y.val ≥ (0 : Int)) = true → (∀ (y : Int × Value),
    List.Mem y l → ∃ (n : Int), y.snd = Value.int IntKind.i64 n) ∧ ((look l y.val).isSome = true → ((-9223372036854775808 : Int) ≤ y.val * (1024 : Int) ∧ y.val * (1024 : Int) ≤
    (9223372036854775807 : Int)) ∧ ((-9223372036854775808 : Int) ≤ y.val * (1024 : Int) + lookI l y.val ∧ y.val * (1024 : Int) + lookI l y.val ≤ (9223372036854775807 : Int)) ∧ (floorI l
    key).fst = (0 : Int) ∧ (floorI l key).snd = y.val * (1024 : Int) + lookI l y.val ∧ (v0 = v0 ∧ True ∧ v2 = v2 ∧ True) ∧ l = l ∧ True) ∧ ((look l y.val).isSome = false →
    ((-9223372036854775808 : Int) ≤ y.val - (1 : Int) ∧ y.val - (1 : Int) ≤ (9223372036854775807 : Int)) ∧ ∃ (y' : FlY l key), (y'.val + (1 : Int)).toNat < (y.val + (1 : Int)).toNat ∧
    key = key ∧ v0 = v0 ∧ v2 = v2 ∧ l = l ∧ y'.val = y.val - (1 : Int) ∧ True)) ∧ (decide (y.val ≥ (0 : Int)) = false → (floorI l key).fst = (1 : Int) ∧ (floorI l key).snd = (0 : Int) ∧
    (v0 = v0 ∧ True ∧ v2 = v2 ∧ True) ∧ l = l ∧ True)) := by
  kernel_rfl
theorem floor_run (v0 v2 : Value) (l : List (Int × Value)) (key : Int) (hc : MapOk l ∧ 0 ≤ key ∧ key ≤ 255) : Run (callN Try.prog ([] : List (Smry Try.prog XN)) (fun _ _ => false) 100 20 101 [.c (.ptr 0 0), .c (.int false .i64 key)] ⟨[(0, .cells [.raw v0, .map 1, .raw v2] 145), (1, .mp false l)], 100⟩ (flS l key) (fun v m _ => outM (.agg [.int false .i64 (floorI l key).1, .int false .i64 (floorI l key).2]) [(0, .cells [.raw v0, .map 1, .raw v2] 145), (1, .mp false l)] v m)) := by
  constructor
  rw [floor_vc]
  obtain ⟨hl, h0, h1⟩ := hc
  refine ⟨⟨⟨key, by omega, Int.le_refl _, rfl⟩, rfl, rfl, rfl, rfl, rfl, trivial⟩, fun y ρ => ⟨fun hge => ?_, fun hlt => ?_⟩⟩
  · have hy := of_decide_eq_true hge
    have hat := hl.at y.1
    have hyk := y.2.2.1
    refine ⟨hl.ints, fun hs => ?_, fun hs => ?_⟩
    · have e := y.2.2.2
      rw [floorI_yes hy hs] at e
      rw [lookI_atK]
      exact ⟨⟨by omega, by omega⟩, ⟨by omega, by omega⟩, (congrArg Prod.fst e).symm, (congrArg Prod.snd e).symm, ⟨rfl, trivial, rfl, trivial⟩, rfl, trivial⟩
    · have e := y.2.2.2
      rw [floorI_no hy hs] at e
      exact ⟨⟨by omega, by omega⟩, ⟨y.1 - 1, by omega, by omega, e⟩, by show (y.1 - 1 + 1).toNat < _; omega, rfl, rfl, rfl, rfl, rfl, trivial⟩
  · have hy := of_decide_eq_false hlt
    have e := y.2.2.2
    have e2 : floorI l y.1 = (1, 0) := by unfold floorI; rw [if_pos (by omega)]
    rw [e2] at e
    exact ⟨(congrArg Prod.fst e).symm, (congrArg Prod.snd e).symm, ⟨rfl, trivial, rfl, trivial⟩, rfl, trivial⟩
/-- What the executor leaves to be shown of roundelay/model.New, written out. -/
theorem mdnew_vc  : (callN Try.prog ([] : List (Smry Try.prog XN)) (fun _ _ => false) 100 20 31 [] ⟨[], 100⟩ (.nil) (fun v m _ => outM (.c (.ptr 40 0)) (renBy (· + 40) (mdHeap ⟨true, [], [], []⟩ 0)) v m)) = (
    (True ∧ True ∧ True ∧ True) ∧ ([] : List (Int × Value)) = [] ∧ ([] : List (Int × Value)) = [] ∧ True) := by
  kernel_rfl
theorem mdnew_run  (hc : True) : Run (callN Try.prog ([] : List (Smry Try.prog XN)) (fun _ _ => false) 100 20 31 [] ⟨[], 100⟩ (.nil) (fun v m _ => outM (.c (.ptr 40 0)) (renBy (· + 40) (mdHeap ⟨true, [], [], []⟩ 0)) v m)) := by
  constructor
  rw [mdnew_vc]
  exact ⟨⟨trivial, trivial, trivial, trivial⟩, rfl, rfl, trivial⟩
/-- What the executor leaves to be shown of (*roundelay/model.Model).Size, written out. -/
theorem mdsize1_vc (ps ss : List (Int × Value)) (z : Nat) : (callN Try.prog ([] : List (Smry Try.prog XN)) (fun _ _ => false) 100 20 38 [.c (.ptr 0 0)] ⟨mdHeap (⟨true, [], ps, ss⟩ : Md) z, 100⟩ (.nil) (fun v m _ => outM (.c (.int false .i64 (mdSize (⟨true, [], ps, ss⟩ : Md)))) (mdHeap (⟨true, [], ps, ss⟩ : Md) z) v m)) = (
    ((Md.mk true [] ps ss).ps = (Md.mk true [] ps ss).ps ∧ (Md.mk true [] ps ss).ss = (Md.mk true [] ps ss).ss ∧ ((-9223372036854775808 : Int) ≤ (0 : Int) + (↑(Md.mk true [] ps
    ss).ps.length : Int) ∧ (0 : Int) + (↑(Md.mk true [] ps ss).ps.length : Int) ≤ (9223372036854775807 : Int)) ∧ ((Md.mk true [] ps ss).ps = (Md.mk true [] ps ss).ps ∧ (Md.mk true [] ps
    ss).ss = (Md.mk true [] ps ss).ss ∧ ((-9223372036854775808 : Int) ≤ (0 : Int) + (↑(Md.mk true [] ps ss).ps.length : Int) + (↑(Md.mk true [] ps ss).ss.length : Int) ∧ (0 : Int) +
    (↑(Md.mk true [] ps ss).ps.length : Int) + (↑(Md.mk true [] ps ss).ss.length : Int) ≤ (9223372036854775807 : Int)) ∧ mdSize (Md.mk true [] ps ss) = (0 : Int) + (↑(Md.mk true [] ps
    ss).ps.length : Int) + (↑(Md.mk true [] ps ss).ss.length : Int) ∧ (True ∧ True ∧ True ∧ True) ∧ (Md.mk true [] ps ss).ps = (Md.mk true [] ps ss).ps ∧ (Md.mk true [] ps ss).ss =
    (Md.mk true [] ps ss).ss ∧ True) ∧ True) ∧ True) := by
  kernel_rfl
theorem mdsize1_run (ps ss : List (Int × Value)) (z : Nat) (hc : ps.length ≤ 256 ∧ ss.length ≤ 256) : Run (callN Try.prog ([] : List (Smry Try.prog XN)) (fun _ _ => false) 100 20 38 [.c (.ptr 0 0)] ⟨mdHeap (⟨true, [], ps, ss⟩ : Md) z, 100⟩ (.nil) (fun v m _ => outM (.c (.int false .i64 (mdSize (⟨true, [], ps, ss⟩ : Md)))) (mdHeap (⟨true, [], ps, ss⟩ : Md) z) v m)) := by
  constructor
  rw [mdsize1_vc]
  repeat' first
    | with_reducible apply And.intro
    | with_reducible exact trivial
    | with_reducible exact Eq.refl _
    | intro _
  all_goals (try dsimp only)
  all_goals first
    | with_reducible exact Eq.refl _
    | omega
    | (unfold mdSize; dsimp only [List.length_nil]; omega)
    | (unfold mdSize; rfl)
    | (simp [mdSize]; done)
    | exact ⟨0, ⟨trivial, trivial, trivial, trivial⟩, rfl, rfl, ⟨trivial, trivial, trivial, trivial⟩, rfl, rfl, trivial⟩
/-- What the executor leaves to be shown of (*roundelay/model.Model).Size, written out. -/
theorem mdsize2_vc (q : List Int) (ps ss : List (Int × Value)) (z : Nat) : (callN Try.prog ([] : List (Smry Try.prog XN)) (fun _ _ => false) 100 20 38 [.c (.ptr 0 0)] ⟨mdHeap (⟨false, q, ps, ss⟩ : Md) z, 100⟩ (.nil) (fun v m _ => outM (.c (.int false .i64 (mdSize (⟨false, q, ps, ss⟩ : Md)))) (mdHeap (⟨false, q, ps, ss⟩ : Md) z) v m)) = (
    ((0 : Nat) = (0 : Nat) ∧ (Md.mk false q ps ss).q.length = (Md.mk false q ps ss).q.length ∧ z = z ∧ (Md.mk false q ps ss).ps = (Md.mk false q ps ss).ps ∧ (Md.mk false q ps ss).ss =
    (Md.mk false q ps ss).ss ∧ (Md.mk false q ps ss).q.length = (Md.mk false q ps ss).q.length ∧ z = z ∧ qF (Md.mk false q ps ss).q = qF (Md.mk false q ps ss).q ∧ ((-9223372036854775808
    : Int) ≤ (↑(Md.mk false q ps ss).q.length : Int) + (↑(Md.mk false q ps ss).ps.length : Int) ∧ (↑(Md.mk false q ps ss).q.length : Int) + (↑(Md.mk false q ps ss).ps.length : Int) ≤
    (9223372036854775807 : Int)) ∧ ((0 : Nat) = (0 : Nat) ∧ (Md.mk false q ps ss).q.length = (Md.mk false q ps ss).q.length ∧ z = z ∧ (Md.mk false q ps ss).ps = (Md.mk false q ps ss).ps
    ∧ (Md.mk false q ps ss).ss = (Md.mk false q ps ss).ss ∧ (Md.mk false q ps ss).q.length = (Md.mk false q ps ss).q.length ∧ z = z ∧ qF (Md.mk false q ps ss).q = qF (Md.mk false q ps
    ss).q ∧ ((-9223372036854775808 : Int) ≤ (↑(Md.mk false q ps ss).q.length : Int) + (↑(Md.mk false q ps ss).ps.length : Int) + (↑(Md.mk false q ps ss).ss.length : Int) ∧ (↑(Md.mk
    false q ps ss).q.length : Int) + (↑(Md.mk false q ps ss).ps.length : Int) + (↑(Md.mk false q ps ss).ss.length : Int) ≤ (9223372036854775807 : Int)) ∧ mdSize (Md.mk false q ps ss) =
    (↑(Md.mk false q ps ss).q.length : Int) + (↑(Md.mk false q ps ss).ps.length : Int) + (↑(Md.mk false q ps ss).ss.length : Int) ∧ (((0 : Nat) = (0 : Nat) ∧ (Md.mk false q ps
    ss).q.length = (Md.mk false q ps ss).q.length ∧ z = z) ∧ True ∧ True ∧ True) ∧ (Md.mk false q ps ss).ps = (Md.mk false q ps ss).ps ∧ (Md.mk false q ps ss).ss = (Md.mk false q ps
    ss).ss ∧ ((Md.mk false q ps ss).q.length = (Md.mk false q ps ss).q.length ∧ z = z ∧ ∀ (i : Nat), i < (Md.mk false q ps ss).q.length → qF (Md.mk false q ps ss).q i = qF (Md.mk false
    q ps ss).q i) ∧ True) ∧ True) ∧ True) := by
  kernel_rfl
theorem mdsize2_run (q : List Int) (ps ss : List (Int × Value)) (z : Nat) (hc : q.length ≤ 256 ∧ ps.length ≤ 256 ∧ ss.length ≤ 256) : Run (callN Try.prog ([] : List (Smry Try.prog XN)) (fun _ _ => false) 100 20 38 [.c (.ptr 0 0)] ⟨mdHeap (⟨false, q, ps, ss⟩ : Md) z, 100⟩ (.nil) (fun v m _ => outM (.c (.int false .i64 (mdSize (⟨false, q, ps, ss⟩ : Md)))) (mdHeap (⟨false, q, ps, ss⟩ : Md) z) v m)) := by
  constructor
  rw [mdsize2_vc]
  repeat' first
    | with_reducible apply And.intro
    | with_reducible exact trivial
    | with_reducible exact Eq.refl _
    | intro _
  all_goals (try dsimp only)
  all_goals first
    | with_reducible exact Eq.refl _
    | omega
    | (unfold mdSize; dsimp only [List.length_nil]; omega)
    | (unfold mdSize; rfl)
    | (simp [mdSize]; done)
    | exact ⟨0, ⟨trivial, trivial, trivial, trivial⟩, rfl, rfl, ⟨trivial, trivial, trivial, trivial⟩, rfl, rfl, trivial⟩
/-- What the executor leaves to be shown of (*roundelay/model.Model).Clone, written out. -/
theorem mdclone1_vc (ps ss : List (Int × Value)) (z : Nat) : (callN Try.prog ([mcloneS] : List (Smry Try.prog XN)) (fun _ _ => false) 100 20 32 [.c (.ptr 0 0)] ⟨mdHeap (⟨true, [], ps, ss⟩ : Md) z, 100⟩ (.nil) (fun v m _ => ∃ z', outM (.c (.ptr 40 0)) (mdHeap (⟨true, [], ps, ss⟩ : Md) z ++ renBy (· + 40) (mdHeap (⟨true, [], ps, ss⟩ : Md) z')) v m)) = (
    ((Md.mk true [] ps ss).ps = (Md.mk true [] ps ss).ps ∧ (Md.mk true [] ps ss).ss = (Md.mk true [] ps ss).ss ∧ ((Md.mk true [] ps ss).ps = (Md.mk true [] ps ss).ps ∧ (Md.mk true [] ps
    ss).ss = (Md.mk true [] ps ss).ss ∧ ((Md.mk true [] ps ss).ps = (Md.mk true [] ps ss).ps ∧ (Md.mk true [] ps ss).ss = (Md.mk true [] ps ss).ss ∧ ((Md.mk true [] ps ss).ps = (Md.mk
    true [] ps ss).ps ∧ (Md.mk true [] ps ss).ss = (Md.mk true [] ps ss).ss ∧ ∃ (z' : Nat), (True ∧ True ∧ True ∧ True) ∧ (Md.mk true [] ps ss).ps = (Md.mk true [] ps ss).ps ∧ (Md.mk
    true [] ps ss).ss = (Md.mk true [] ps ss).ss ∧ (True ∧ True ∧ True ∧ True) ∧ (Md.mk true [] ps ss).ps = (Md.mk true [] ps ss).ps ∧ (Md.mk true [] ps ss).ss = (Md.mk true [] ps
    ss).ss ∧ True) ∧ True) ∧ True) ∧ True) ∧ True) := by
  kernel_rfl
theorem mdclone1_run (ps ss : List (Int × Value)) (z : Nat) (hc : True) : Run (callN Try.prog ([mcloneS] : List (Smry Try.prog XN)) (fun _ _ => false) 100 20 32 [.c (.ptr 0 0)] ⟨mdHeap (⟨true, [], ps, ss⟩ : Md) z, 100⟩ (.nil) (fun v m _ => ∃ z', outM (.c (.ptr 40 0)) (mdHeap (⟨true, [], ps, ss⟩ : Md) z ++ renBy (· + 40) (mdHeap (⟨true, [], ps, ss⟩ : Md) z')) v m)) := by
  constructor
  rw [mdclone1_vc]
  repeat' first
    | with_reducible apply And.intro
    | with_reducible exact trivial
    | with_reducible exact Eq.refl _
    | intro _
  all_goals (try dsimp only)
  all_goals first
    | with_reducible exact Eq.refl _
    | omega
    | (unfold mdSize; dsimp only [List.length_nil]; omega)
    | (unfold mdSize; rfl)
    | (simp [mdSize]; done)
    | exact ⟨0, ⟨trivial, trivial, trivial, trivial⟩, rfl, rfl, ⟨trivial, trivial, trivial, trivial⟩, rfl, rfl, trivial⟩
/-- What the executor leaves to be shown of (*roundelay/model.Model).Clone, written out. -/
theorem mdclone2_vc (q : List Int) (ps ss : List (Int × Value)) (z : Nat) : (callN Try.prog ([mcloneS] : List (Smry Try.prog XN)) (fun _ _ => false) 100 20 32 [.c (.ptr 0 0)] ⟨mdHeap (⟨false, q, ps, ss⟩ : Md) z, 100⟩ (.nil) (fun v m _ => ∃ z', outM (.c (.ptr 40 0)) (mdHeap (⟨false, q, ps, ss⟩ : Md) z ++ renBy (· + 40) (mdHeap (⟨false, q, ps, ss⟩ : Md) z')) v m)) = (
    (True ∧ (0 : Nat) + (Md.mk false q ps ss).q.length ≤ (Md.mk false q ps ss).q.length ∧ (0 : Nat) + (Md.mk false q ps ss).q.length ≤ (1000000000 : Nat) ∧ ∀ (cap : Nat), (0 : Nat) +
    (Md.mk false q ps ss).q.length ≤ cap → (0 : Nat) = (0 : Nat) ∧ (Md.mk false q ps ss).q.length = (Md.mk false q ps ss).q.length ∧ z = z ∧ (Md.mk false q ps ss).ps = (Md.mk false q ps
    ss).ps ∧ (Md.mk false q ps ss).ss = (Md.mk false q ps ss).ss ∧ (Md.mk false q ps ss).q.length = (Md.mk false q ps ss).q.length ∧ z = z ∧ qF (Md.mk false q ps ss).q = qF (Md.mk false
    q ps ss).q ∧ ((0 : Nat) = (0 : Nat) ∧ (Md.mk false q ps ss).q.length = (Md.mk false q ps ss).q.length ∧ z = z ∧ (Md.mk false q ps ss).ps = (Md.mk false q ps ss).ps ∧ (Md.mk false q
    ps ss).ss = (Md.mk false q ps ss).ss ∧ (Md.mk false q ps ss).q.length = (Md.mk false q ps ss).q.length ∧ z = z ∧ qF (Md.mk false q ps ss).q = qF (Md.mk false q ps ss).q ∧ ((0 : Nat)
    = (0 : Nat) ∧ (Md.mk false q ps ss).q.length = (Md.mk false q ps ss).q.length ∧ z = z ∧ (Md.mk false q ps ss).ps = (Md.mk false q ps ss).ps ∧ (Md.mk false q ps ss).ss = (Md.mk false
    q ps ss).ss ∧ (Md.mk false q ps ss).q.length = (Md.mk false q ps ss).q.length ∧ z = z ∧ qF (Md.mk false q ps ss).q = qF (Md.mk false q ps ss).q ∧ ((0 : Nat) = (0 : Nat) ∧ (Md.mk
    false q ps ss).q.length = (Md.mk false q ps ss).q.length ∧ z = z ∧ (Md.mk false q ps ss).ps = (Md.mk false q ps ss).ps ∧ (Md.mk false q ps ss).ss = (Md.mk false q ps ss).ss ∧ (Md.mk
    false q ps ss).q.length = (Md.mk false q ps ss).q.length ∧ z = z ∧ qF (Md.mk false q ps ss).q = qF (Md.mk false q ps ss).q ∧ ∃ (z' : Nat), (((0 : Nat) = (0 : Nat) ∧ (Md.mk false q
    ps ss).q.length = (Md.mk false q ps ss).q.length ∧ z = z) ∧ True ∧ True ∧ True) ∧ (Md.mk false q ps ss).ps = (Md.mk false q ps ss).ps ∧ (Md.mk false q ps ss).ss = (Md.mk false q ps
    ss).ss ∧ ((Md.mk false q ps ss).q.length = (Md.mk false q ps ss).q.length ∧ z = z ∧ ∀ (i : Nat), i < (Md.mk false q ps ss).q.length → qF (Md.mk false q ps ss).q i = qF (Md.mk false
    q ps ss).q i) ∧ (((0 : Nat) = (0 : Nat) ∧ (Md.mk false q ps ss).q.length = (0 : Nat) + (Md.mk false q ps ss).q.length ∧ z' = cap) ∧ True ∧ True ∧ True) ∧ (Md.mk false q ps ss).ps =
    (Md.mk false q ps ss).ps ∧ (Md.mk false q ps ss).ss = (Md.mk false q ps ss).ss ∧ ((Md.mk false q ps ss).q.length = (0 : Nat) + (Md.mk false q ps ss).q.length ∧ z' = cap ∧ ∀ (i :
    Nat), i < (Md.mk false q ps ss).q.length → qF (Md.mk false q ps ss).q i = qF (Md.mk false q ps ss).q (addO true (0 : Nat) i)) ∧ True) ∧ True) ∧ True) ∧ True) ∧ True) := by
  kernel_rfl
theorem mdclone2_run (q : List Int) (ps ss : List (Int × Value)) (z : Nat) (hc : q.length ≤ 256) : Run (callN Try.prog ([mcloneS] : List (Smry Try.prog XN)) (fun _ _ => false) 100 20 32 [.c (.ptr 0 0)] ⟨mdHeap (⟨false, q, ps, ss⟩ : Md) z, 100⟩ (.nil) (fun v m _ => ∃ z', outM (.c (.ptr 40 0)) (mdHeap (⟨false, q, ps, ss⟩ : Md) z ++ renBy (· + 40) (mdHeap (⟨false, q, ps, ss⟩ : Md) z')) v m)) := by
  constructor
  rw [mdclone2_vc]
  repeat' first
    | with_reducible apply And.intro
    | with_reducible exact trivial
    | with_reducible exact Eq.refl _
    | (intro cap; intro hcap)
  all_goals (try dsimp only)
  all_goals first
    | omega
    | skip
  refine ⟨cap, ?_⟩
  repeat' first
    | with_reducible apply And.intro
    | with_reducible exact trivial
    | with_reducible exact Eq.refl _
    | (intro i; intro hi)
  all_goals first
    | omega
    | rfl
    | (rw [addO_eq, Nat.zero_add])
/-- The greatest key's value, below a key. -/
def floorS : Smry Try.prog XN where
  g := 101
  run := fun args m K => match args with
    | [.c (.ptr p 0), .c (.int _ .i64 key _)] => match m.hp.get p with
      | some (.cells [x0, .map a, x2] t) => match (m.hp.del p).get a with
        | some (.mp false l) => (t = 145 ∧ MapOk l ∧ 0 ≤ key ∧ key ≤ 255) ∧ K (respV (floorI l key)) m
        | _ => Stuck 822
      | _ => Stuck 823
    | _ => Stuck 824
  ok := fun args m K hr => by
    split at hr <;> try exact hr.elim
    rename_i p lb key bd
    split at hr <;> try exact hr.elim
    rename_i x0 a x2 t hp
    split at hr <;> try exact hr.elim
    rename_i l hl
    obtain ⟨⟨rfl, hc⟩, hr⟩ := hr
    intro ν w R w0 Hs HK
    have H1 := Hs
    rw [SH.den_get ν hp, Assn.mul_assoc, SH.den_get ν hl, Assn.mul_assoc] at H1
    let μ : Nat → Nat := fun n => if n = 0 then ν p else ν a
    have H2 : Sat w ((⟨[(0, .cells [.raw (x0.den ν), .map 1, .raw (x2.den ν)] 145), (1, .mp false l)], 100⟩ : Mem XN).hp.den μ * (((m.hp.del p).del a).den ν * R)) := by
      refine H1.cast ?_
      simp only [SH.den, SO.den, SC.denL, SC.den, cond_false]
      show _ = own (ν p) _ * (mapAt (ν a) l * 1) * _
      rw [Assn.mul_comm _ (1 : Assn), Assn.one_mul, Assn.mul_assoc]
      rfl
    have e : (([.c (.ptr p 0), .c (.int lb .i64 key bd)] : List SV).map (SV.den ν)) = (([.c (.ptr 0 0), .c (.int false .i64 key)] : List SV).map (SV.den μ)) := rfl
    rw [e]
    refine (callN_ok namesOk mixed _ _ _ _ _ _ ⟨[(0, .cells [.raw (x0.den ν), .map 1, .raw (x2.den ν)] 145), (1, .mp false l)], 100⟩ _ _ (floor_run (x0.den ν) (x2.den ν) l key hc).out μ w _ w0 H2 HK).mono ?_
    rintro e w' ⟨v, m', s', ξ, hv, ag, _, he, hs, hk⟩
    obtain ⟨κ, ag2, hv2, hs⟩ := outM_sound hv hs
    have k0 : κ 0 = ν p := by rw [ag2 0 (by decide), ag 0 (show 0 < 100 by decide)]; rfl
    have k1 : κ 1 = ν a := by rw [ag2 1 (by decide), ag 1 (show 1 < 100 by decide)]; rfl
    refine ⟨_, m, ν, hr, Agree.refl _ _, Nat.le_refl _, by rw [he, hv2]; rfl, ?_, hk⟩
    rw [SH.den_get ν hp, Assn.mul_assoc, SH.den_get ν hl, Assn.mul_assoc]
    refine hs.cast ?_
    simp only [SH.den, SO.den, SC.denL, SC.den, cond_false, k0, k1]
    rw [Assn.mul_comm _ (1 : Assn), Assn.one_mul, Assn.mul_assoc]
end Go.Proofs.Ytaflaaiomlijbaa
