/- The arena's calls that fail (layer 3): by the executor. -/
import Derived.Test.YtnkikhhiaecebaaBaseParL
import Derived.Test.YtnkikhhiaecebaaBaseAP4
import Derived.Test.YtnkikhhiaecebaaBaseC
set_option linter.all false
namespace Go.Proofs.Ytnkikhhiaecebaa
open Go Go.RowKit
set_option maxRecDepth 1000000
set_option maxHeartbeats 0
def Ar.wordI (A : Ar) (h i : Int) : Option Nat := if 0 ≤ i then A.word h.toNat i.toNat else none
def Ar.errI (A : Ar) (h : Int) : Int := if h ≠ 0 ∧ A.find h.toNat = none then 23 else 24
theorem at_err (p : Nat) (h i : Int) (A : Ar) (w : World) {R : Assn} (H : Sat w (arAt p A * R)) (hh : 0 ≤ h ∧ h < 18446744073709551616) (hn : A.wordI h i = none) :
    Calls Try.prog 92 #[.pointer (some ⟨p, 0, none⟩), .agg #[.int .u64 h, .int .i64 i]] w fun e w' => e = .returned (.tuple #[.slice none 0 0, .int .i64 (A.errI h)]) ∧ Sat w' (arAt p A.fault * R) ∧ Kept w w' := by
  obtain ⟨h, rfl⟩ : ∃ k : Nat, h = k := ⟨h.toNat, by omega⟩
  have hT : h < TW := by unfold TW; omega
  unfold Ar.wordI Ar.word at hn
  unfold Ar.errI
  rw [Int.toNat_natCast] at *
  by_cases h0 : h = 0
  · subst h0
    rw [if_neg (fun e => e.1 rfl)]
    refine at_range_fixed p i A w H ?_
    by_cases hi : 0 ≤ i
    · rw [if_pos hi, if_pos rfl] at hn
      split at hn
      · cases hn
      · omega
    · omega
  · have h0' : (h : Int) ≠ 0 := by omega
    cases hf : A.find h with
    | none =>
      rw [if_pos ⟨h0', rfl⟩]
      exact at_gone p h i A w H hT h0 hf
    | some b =>
      rw [if_neg (fun e => by cases e.2)]
      obtain ⟨ps, pb, l1, l2, g, c, cur, _, hl, hv, _⟩ := ar_block H (Ar.find_mem hf).1
      refine at_range_block p h g _ c i A b w H hT h0 hf hv ?_
      by_cases hi : 0 ≤ i
      · rw [if_pos hi, if_neg h0, hf] at hn
        simp only [Option.bind_some, List.getElem?_eq_none_iff] at hn
        omega
      · omega
def atF : Smry Try.prog XE where
  g := 92
  run := fun args m K => match args with
    | [.c (.ptr n 0), .agg [.int _ .u64 h _, .int _ .i64 i _]] => match m.hp.get n with
      | some (.ext (.ar A)) => (0 ≤ h ∧ h < 18446744073709551616) ∧ A.wordI h i = none ∧ K (.tup [(false, [.nls]), (false, [.int false .i64 (A.errI h)])]) ⟨m.hp.set n (arO A.fault), m.nx⟩
      | _ => Stuck 936
    | _ => Stuck 937
  ok := fun args m K hr => by
    split at hr <;> try exact hr.elim
    rename_i n _ h _ _ i _
    split at hr <;> try exact hr.elim
    rename_i A hA
    exact gives_ext hA hr.2.2 fun ν w R H => at_err (ν n) h i A w H hr.1 hr.2.1
theorem readE_vc (A : Ar) (h i : Int) : (callN Try.prog ([atF] : List (Smry Try.prog XE)) (fun _ _ => false) 100 20 15 [.c (.ptr 0 0), .agg [.int false .u64 h, .int false .i64 i]] ⟨[(0, arO A)], 100⟩ (.t .nil) (fun v m _ => outM (.tup [(false, [.int true .u64 0]), (false, [.int false .i64 (A.errI h)])]) [(0, arO A.fault)] v m)) = (
 ((0 : Int) ≤ h ∧ h < (18446744073709551616 : Int)) ∧ A.wordI h i = none ∧ (A.errI h != (0 : Int)) = true ∧ A.errI h = A.errI h ∧ A.fault = A.fault ∧ True) := by
  kernel_rfl
theorem readE_run (A : Ar) (h i : Int) (hc : (0 ≤ h ∧ h < 18446744073709551616) ∧ A.wordI h i = none) : Run (callN Try.prog ([atF] : List (Smry Try.prog XE)) (fun _ _ => false) 100 20 15 [.c (.ptr 0 0), .agg [.int false .u64 h, .int false .i64 i]] ⟨[(0, arO A)], 100⟩ (.t .nil) (fun v m _ => outM (.tup [(false, [.int true .u64 0]), (false, [.int false .i64 (A.errI h)])]) [(0, arO A.fault)] v m)) := by
  constructor
  rw [readE_vc]
  obtain ⟨⟨hc1, hc2⟩, hc3⟩ := hc
  have h1 : (A.errI h != 0) = true := by
    unfold Ar.errI
    split <;> rfl
  have h2 : (A.errI h == 0) = false := by
    unfold Ar.errI
    split <;> rfl

  repeat' (with_reducible first | assumption | apply And.intro | exact trivial | exact Eq.refl _)
theorem writeE_vc (A : Ar) (h i y : Int) : (callN Try.prog ([atF] : List (Smry Try.prog XE)) (fun _ _ => false) 100 20 19 [.c (.ptr 0 0), .agg [.int false .u64 h, .int false .i64 i], .c (.int false .u64 y)] ⟨[(0, arO A)], 100⟩ (.t .nil) (fun v m _ => outM (.c (.int false .i64 (A.errI h))) [(0, arO A.fault)] v m)) = (
 ((0 : Int) ≤ h ∧ h < (18446744073709551616 : Int)) ∧ A.wordI h i = none ∧ (A.errI h != (0 : Int)) = true ∧ A.errI h = A.errI h ∧ A.fault = A.fault ∧ True) := by
  kernel_rfl
theorem writeE_run (A : Ar) (h i y : Int) (hc : (0 ≤ h ∧ h < 18446744073709551616) ∧ A.wordI h i = none) : Run (callN Try.prog ([atF] : List (Smry Try.prog XE)) (fun _ _ => false) 100 20 19 [.c (.ptr 0 0), .agg [.int false .u64 h, .int false .i64 i], .c (.int false .u64 y)] ⟨[(0, arO A)], 100⟩ (.t .nil) (fun v m _ => outM (.c (.int false .i64 (A.errI h))) [(0, arO A.fault)] v m)) := by
  constructor
  rw [writeE_vc]
  obtain ⟨⟨hc1, hc2⟩, hc3⟩ := hc
  have h1 : (A.errI h != 0) = true := by
    unfold Ar.errI
    split <;> rfl
  have h2 : (A.errI h == 0) = false := by
    unfold Ar.errI
    split <;> rfl

  repeat' (with_reducible first | assumption | apply And.intro | exact trivial | exact Eq.refl _)
theorem swapE_vc (A : Ar) (h i o y : Int) : (callN Try.prog ([atF] : List (Smry Try.prog XE)) (fun _ _ => false) 100 20 16 [.c (.ptr 0 0), .agg [.int false .u64 h, .int false .i64 i], .c (.int false .u64 o), .c (.int false .u64 y)] ⟨[(0, arO A)], 100⟩ (.t .nil) (fun v m _ => outM (.tup [(false, [.boo true false]), (false, [.int false .i64 (A.errI h)])]) [(0, arO A.fault)] v m)) = (
 ((0 : Int) ≤ h ∧ h < (18446744073709551616 : Int)) ∧ A.wordI h i = none ∧ (A.errI h != (0 : Int)) = true ∧ A.errI h = A.errI h ∧ A.fault = A.fault ∧ True) := by
  kernel_rfl
theorem swapE_run (A : Ar) (h i o y : Int) (hc : (0 ≤ h ∧ h < 18446744073709551616) ∧ A.wordI h i = none) : Run (callN Try.prog ([atF] : List (Smry Try.prog XE)) (fun _ _ => false) 100 20 16 [.c (.ptr 0 0), .agg [.int false .u64 h, .int false .i64 i], .c (.int false .u64 o), .c (.int false .u64 y)] ⟨[(0, arO A)], 100⟩ (.t .nil) (fun v m _ => outM (.tup [(false, [.boo true false]), (false, [.int false .i64 (A.errI h)])]) [(0, arO A.fault)] v m)) := by
  constructor
  rw [swapE_vc]
  obtain ⟨⟨hc1, hc2⟩, hc3⟩ := hc
  have h1 : (A.errI h != 0) = true := by
    unfold Ar.errI
    split <;> rfl
  have h2 : (A.errI h == 0) = false := by
    unfold Ar.errI
    split <;> rfl

  repeat' (with_reducible first | assumption | apply And.intro | exact trivial | exact Eq.refl _)
theorem addE_vc (A : Ar) (h i y : Int) : (callN Try.prog ([atF] : List (Smry Try.prog XE)) (fun _ _ => false) 100 20 17 [.c (.ptr 0 0), .agg [.int false .u64 h, .int false .i64 i], .c (.int false .u64 y)] ⟨[(0, arO A)], 100⟩ (.t .nil) (fun v m _ => outM (.tup [(false, [.int true .u64 0]), (false, [.int false .i64 (A.errI h)])]) [(0, arO A.fault)] v m)) = (
 ((0 : Int) ≤ h ∧ h < (18446744073709551616 : Int)) ∧ A.wordI h i = none ∧ (A.errI h != (0 : Int)) = true ∧ A.errI h = A.errI h ∧ A.fault = A.fault ∧ True) := by
  kernel_rfl
theorem addE_run (A : Ar) (h i y : Int) (hc : (0 ≤ h ∧ h < 18446744073709551616) ∧ A.wordI h i = none) : Run (callN Try.prog ([atF] : List (Smry Try.prog XE)) (fun _ _ => false) 100 20 17 [.c (.ptr 0 0), .agg [.int false .u64 h, .int false .i64 i], .c (.int false .u64 y)] ⟨[(0, arO A)], 100⟩ (.t .nil) (fun v m _ => outM (.tup [(false, [.int true .u64 0]), (false, [.int false .i64 (A.errI h)])]) [(0, arO A.fault)] v m)) := by
  constructor
  rw [addE_vc]
  obtain ⟨⟨hc1, hc2⟩, hc3⟩ := hc
  have h1 : (A.errI h != 0) = true := by
    unfold Ar.errI
    split <;> rfl
  have h2 : (A.errI h == 0) = false := by
    unfold Ar.errI
    split <;> rfl

  repeat' (with_reducible first | assumption | apply And.intro | exact trivial | exact Eq.refl _)
end Go.Proofs.Ytnkikhhiaecebaa
