/- Layer 6's first: a closed run. -/
import Derived.Test.YtaflaaiomlijbaaMdlR
import Derived.Test.YtaflaaiomlijbaaSortI
set_option linter.all false
namespace Go.Proofs.Ytaflaaiomlijbaa
open Go Go.RowKit
set_option maxRecDepth 1000000
set_option maxHeartbeats 0
def allIntB (l : List (Int × Value)) : Bool := l.all fun x => match x.2 with
  | .int .i64 _ => true
  | _ => false
theorem allIntB_of {l : List (Int × Value)} (h : allIntB l = true) : AllInt .i64 l := fun x hx => by
  have := List.all_eq_true.1 h x hx
  split at this
  · rename_i n e; exact ⟨n, e⟩
  · cases this
/-- Are two known maps the same? -/
def mequalK : Smry Try.prog XN where
  g := 77
  run := fun args m K => match args with
    | [.c (.map a), .c (.map b)] => match m.hp.get a with
      | some (.mp false l) => match (m.hp.del a).get b with
        | some (.mp false k) => bif allIntB l && allIntB k then forceB (mapsB l k) (fun b => K (.c (.boo true b)) m) else Stuck 866
        | _ => Stuck 867
      | _ => Stuck 868
    | _ => Stuck 869
  ok := fun args m K hr => by
    split at hr <;> try exact hr.elim
    rename_i a b
    split at hr <;> try exact hr.elim
    rename_i l hl
    split at hr <;> try exact hr.elim
    rename_i k hk
    cases hb : allIntB l && allIntB k <;> rw [hb] at hr
    · exact hr.elim
    simp only [cond_true, forceB_eq] at hr
    simp only [Bool.and_eq_true] at hb
    intro ν w R w0 Hs HK
    have H1 := Hs
    rw [SH.den_get ν hl, Assn.mul_assoc, SH.den_get ν hk, Assn.mul_assoc] at H1
    refine (read_two (mequal_run l k ⟨allIntB_of hb.1, allIntB_of hb.2⟩) rfl rfl rfl (ν := ν) (b0 := ν a) (b1 := ν b) rfl H1 HK).mono ?_
    rintro e w' ⟨he, hs, hk'⟩
    refine ⟨_, m, ν, hr, Agree.refl _ _, Nat.le_refl _, he, ?_, hk'⟩
    rw [SH.den_get ν hl, Assn.mul_assoc, SH.den_get ν hk, Assn.mul_assoc]
    exact hs
/-- What the executor leaves to be shown of roundelay/roundelaylaw06.first, written out. -/
theorem first06_vc  : (callN Try.prog ([sortedK, mcloneS, mequalK] : List (Smry Try.prog XN)) (fun _ _ => false) 300 30 29 [] ⟨[], 1⟩ (.know) (fun v _ _ => retTrue v)) = (
    ((True ∧ True ∧ (1 : Nat) ≤ (1000000000 : Nat) ∧ ∀ (cap : Nat), (1 : Nat) ≤ cap → (True ∧ True ∧ (1 : Nat) ≤ (1000000000 : Nat) ∧ ∀ (cap : Nat), (1 : Nat) ≤ cap → True ∧ True ∧ (0 :
    Nat) ≤ (1000000000 : Nat) ∧ ∀ (cap_1 : Nat), (0 : Nat) ≤ cap_1 → cap = cap ∧ True ∧ (2 : Nat) ≤ (1000000000 : Nat) ∧ ∀ (cap : Nat), (2 : Nat) ≤ cap → cap = cap ∧ True ∧ (3 : Nat) ≤
    (1000000000 : Nat) ∧ ∀ (cap : Nat), (3 : Nat) ≤ cap → ((∀ (y : Int × Value), List.Mem y [] → ∃ (n : Int), y.snd = Value.int IntKind.i64 n) ∧ (cap = cap ∧ True ∧ (4 : Nat) ≤
    (1000000000 : Nat) ∧ ∀ (cap : Nat), (4 : Nat) ≤ cap → ((∀ (y : Int × Value), List.Mem y [((3 : Int), Value.int IntKind.i64 (9 : Int))] → ∃ (n : Int), y.snd = Value.int IntKind.i64
    n) ∧ (∀ (y : Int × Value), List.Mem y [((3 : Int), Value.int IntKind.i64 (9 : Int))] → ∃ (n : Int), y.snd = Value.int IntKind.i64 n) ∧ (∀ (y : Int × Value), List.Mem y [((3 : Int),
    Value.int IntKind.i64 (9 : Int))] → ∃ (n : Int), y.snd = Value.int IntKind.i64 n) ∧ (∀ (y : Int × Value), List.Mem y [((3 : Int), Value.int IntKind.i64 (9 : Int))] → ∃ (n : Int),
    y.snd = Value.int IntKind.i64 n) ∧ (∀ (y : Int × Value), List.Mem y [((3 : Int), Value.int IntKind.i64 (9 : Int))] → ∃ (n : Int), y.snd = Value.int IntKind.i64 n) ∧ (∀ (y : Int ×
    Value), List.Mem y [((3 : Int), Value.int IntKind.i64 (9 : Int))] → ∃ (n : Int), y.snd = Value.int IntKind.i64 n) ∧ ((-9223372036854775808 : Int) ≤ (3081 : Int) ∧ (3081 : Int) ≤
    (9223372036854775807 : Int)) ∧ cap = cap ∧ True ∧ (5 : Nat) ≤ (1000000000 : Nat) ∧ ∀ (cap : Nat), (5 : Nat) ≤ cap → ((∀ (y : Int × Value), List.Mem y [] → ∃ (n : Int), y.snd =
    Value.int IntKind.i64 n) ∧ (cap = cap ∧ True ∧ (6 : Nat) ≤ (1000000000 : Nat) ∧ ∀ (cap : Nat), (6 : Nat) ≤ cap → ((∀ (y : Int × Value), List.Mem y [((1 : Int), Value.int IntKind.i64
    (1 : Int))] → ∃ (n : Int), y.snd = Value.int IntKind.i64 n) ∧ ((-9223372036854775808 : Int) ≤ (0 : Int) ∧ (0 : Int) ≤ (9223372036854775807 : Int)) ∧ ((-9223372036854775808 : Int) ≤
    (0 : Int) ∧ (0 : Int) ≤ (9223372036854775807 : Int)) ∧ cap = cap ∧ True ∧ (7 : Nat) ≤ (1000000000 : Nat) ∧ ∀ (cap : Nat), (7 : Nat) ≤ cap → ((∀ (y : Int × Value), List.Mem y [((1 :
    Int), Value.int IntKind.i64 (0 : Int))] → ∃ (n : Int), y.snd = Value.int IntKind.i64 n) ∧ cap = cap ∧ True ∧ (8 : Nat) ≤ (1000000000 : Nat) ∧ ∀ (cap : Nat), (8 : Nat) ≤ cap → ([((3
    : Int), Value.int IntKind.i64 (9 : Int))] = [((3 : Int), Value.int IntKind.i64 (9 : Int))] ∧ [((1 : Int), Value.int IntKind.i64 (0 : Int))] = [((1 : Int), Value.int IntKind.i64 (0 :
    Int))] ∧ (0 : Nat) = (0 : Nat) ∧ cap_1 = cap_1 ∧ cap_1 = cap_1 ∧ ((-9223372036854775808 : Int) ≤ (1 : Int) ∧ (1 : Int) ≤ (9223372036854775807 : Int)) ∧ ([((3 : Int), Value.int
    IntKind.i64 (9 : Int))] = [((3 : Int), Value.int IntKind.i64 (9 : Int))] ∧ [((1 : Int), Value.int IntKind.i64 (0 : Int))] = [((1 : Int), Value.int IntKind.i64 (0 : Int))] ∧ (0 :
    Nat) = (0 : Nat) ∧ cap_1 = cap_1 ∧ cap_1 = cap_1 ∧ ((-9223372036854775808 : Int) ≤ (2 : Int) ∧ (2 : Int) ≤ (9223372036854775807 : Int)) ∧ ∀ (cap : Nat), (1 : Nat) ≤ cap → (∀ (y :
    Int × Value), List.Mem y [((3 : Int), Value.int IntKind.i64 (9 : Int))] → ∃ (n : Int), y.snd = Value.int IntKind.i64 n) ∧ True ∧ True ∧ (1 : Nat) ≤ (1000000000 : Nat) ∧ ∀ (cap :
    Nat), (1 : Nat) ≤ cap → ∀ (cap : Nat), (1 : Nat) ≤ cap → (∀ (y : Int × Value), List.Mem y [((1 : Int), Value.int IntKind.i64 (0 : Int))] → ∃ (n : Int), y.snd = Value.int IntKind.i64
    n) ∧ True ∧ True ∧ (1 : Nat) ≤ (1000000000 : Nat) ∧ ∀ (cap : Nat), (1 : Nat) ≤ cap → True ∧ True ∧ (0 : Nat) ≤ (1000000000 : Nat) ∧ ∀ (cap : Nat), (0 : Nat) ≤ cap → (True ∧ True ∧
    (0 : Nat) ≤ (1000000000 : Nat) ∧ ∀ (cap : Nat), (0 : Nat) ≤ cap → [((3 : Int), Value.int IntKind.i64 (9 : Int))] = [((3 : Int), Value.int IntKind.i64 (9 : Int))] ∧ [((1 : Int),
    Value.int IntKind.i64 (0 : Int))] = [((1 : Int), Value.int IntKind.i64 (0 : Int))] ∧ (0 : Nat) = (0 : Nat) ∧ cap_1 = cap_1 ∧ cap_1 = cap_1 ∧ ([((3 : Int), Value.int IntKind.i64 (9 :
    Int))] = [((3 : Int), Value.int IntKind.i64 (9 : Int))] ∧ [((1 : Int), Value.int IntKind.i64 (0 : Int))] = [((1 : Int), Value.int IntKind.i64 (0 : Int))] ∧ (0 : Nat) = (0 : Nat) ∧
    cap_1 = cap_1 ∧ cap_1 = cap_1 ∧ ([((3 : Int), Value.int IntKind.i64 (9 : Int))] = [((3 : Int), Value.int IntKind.i64 (9 : Int))] ∧ [((1 : Int), Value.int IntKind.i64 (0 : Int))] =
    [((1 : Int), Value.int IntKind.i64 (0 : Int))] ∧ (0 : Nat) = (0 : Nat) ∧ cap_1 = cap_1 ∧ cap_1 = cap_1 ∧ ([((3 : Int), Value.int IntKind.i64 (9 : Int))] = [((3 : Int), Value.int
    IntKind.i64 (9 : Int))] ∧ [((1 : Int), Value.int IntKind.i64 (0 : Int))] = [((1 : Int), Value.int IntKind.i64 (0 : Int))] ∧ (0 : Nat) = (0 : Nat) ∧ cap_1 = cap_1 ∧ cap_1 = cap_1 ∧
    ([((3 : Int), Value.int IntKind.i64 (9 : Int))] = [((3 : Int), Value.int IntKind.i64 (9 : Int))] ∧ [((1 : Int), Value.int IntKind.i64 (0 : Int))] = [((1 : Int), Value.int
    IntKind.i64 (0 : Int))] ∧ (0 : Nat) = (0 : Nat) ∧ cap_1 = cap_1 ∧ cap_1 = cap_1 ∧ (0 : Nat) = (0 : Nat) ∧ cap = cap ∧ cap = cap ∧ [((3 : Int), Value.int IntKind.i64 (9 : Int))] =
    [((3 : Int), Value.int IntKind.i64 (9 : Int))] ∧ [((1 : Int), Value.int IntKind.i64 (0 : Int))] = [((1 : Int), Value.int IntKind.i64 (0 : Int))] ∧ ([((3 : Int), Value.int
    IntKind.i64 (9 : Int))] = [((3 : Int), Value.int IntKind.i64 (9 : Int))] ∧ [((1 : Int), Value.int IntKind.i64 (0 : Int))] = [((1 : Int), Value.int IntKind.i64 (0 : Int))] ∧ (0 :
    Nat) = (0 : Nat) ∧ cap_1 = cap_1 ∧ cap_1 = cap_1 ∧ (0 : Nat) = (0 : Nat) ∧ cap = cap ∧ cap = cap ∧ [((3 : Int), Value.int IntKind.i64 (9 : Int))] = [((3 : Int), Value.int
    IntKind.i64 (9 : Int))] ∧ [((1 : Int), Value.int IntKind.i64 (0 : Int))] = [((1 : Int), Value.int IntKind.i64 (0 : Int))] ∧ ([((3 : Int), Value.int IntKind.i64 (9 : Int))] = [((3 :
    Int), Value.int IntKind.i64 (9 : Int))] ∧ [((1 : Int), Value.int IntKind.i64 (0 : Int))] = [((1 : Int), Value.int IntKind.i64 (0 : Int))] ∧ (0 : Nat) = (0 : Nat) ∧ cap_1 = cap_1 ∧
    cap_1 = cap_1 ∧ (0 : Nat) = (0 : Nat) ∧ cap = cap ∧ cap = cap ∧ [((3 : Int), Value.int IntKind.i64 (9 : Int))] = [((3 : Int), Value.int IntKind.i64 (9 : Int))] ∧ [((1 : Int),
    Value.int IntKind.i64 (0 : Int))] = [((1 : Int), Value.int IntKind.i64 (0 : Int))] ∧ ([((3 : Int), Value.int IntKind.i64 (9 : Int))] = [((3 : Int), Value.int IntKind.i64 (9 : Int))]
    ∧ [((1 : Int), Value.int IntKind.i64 (0 : Int))] = [((1 : Int), Value.int IntKind.i64 (0 : Int))] ∧ (0 : Nat) = (0 : Nat) ∧ cap_1 = cap_1 ∧ cap_1 = cap_1 ∧ ([] : List (Int × Value))
    = [] ∧ ([] : List (Int × Value)) = [] ∧ ([((3 : Int), Value.int IntKind.i64 (9 : Int))] = [((3 : Int), Value.int IntKind.i64 (9 : Int))] ∧ [((1 : Int), Value.int IntKind.i64 (0 :
    Int))] = [((1 : Int), Value.int IntKind.i64 (0 : Int))] ∧ (0 : Nat) = (0 : Nat) ∧ cap_1 = cap_1 ∧ cap_1 = cap_1 ∧ ([] : List (Int × Value)) = [] ∧ ([] : List (Int × Value)) = [] ∧
    true = true) ∧ True) ∧ True) ∧ True) ∧ True) ∧ True) ∧ True) ∧ True) ∧ True) ∧ True) ∧ True) ∧ True) ∧ True) ∧ True) ∧ True) ∧ True) ∧ True) ∧ True) ∧ True) ∧ True) ∧ True) ∧ True) := by
  kernel_rfl
theorem first06_run  (hc : True) : Run (callN Try.prog ([sortedK, mcloneS, mequalK] : List (Smry Try.prog XN)) (fun _ _ => false) 300 30 29 [] ⟨[], 1⟩ (.know) (fun v _ _ => retTrue v)) := by
  constructor
  rw [first06_vc]
  repeat' first
    | with_reducible apply And.intro
    | with_reducible exact trivial
    | with_reducible exact Eq.refl _
    | exact allIntB_of (l := []) rfl
    | exact allIntB_of (l := [(3, .int .i64 9)]) rfl
    | exact allIntB_of (l := [(1, .int .i64 1)]) rfl
    | exact allIntB_of (l := [(1, .int .i64 0)]) rfl
    | intro _
  all_goals omega
end Go.Proofs.Ytaflaaiomlijbaa
