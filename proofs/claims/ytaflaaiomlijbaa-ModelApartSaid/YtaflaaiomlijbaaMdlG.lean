/- Are steps too many to be asked? Either answer. -/
import Derived.Test.YtaflaaiomlijbaaMdlP
set_option linter.all false
namespace Go.Proofs.Ytaflaaiomlijbaa
open Go Go.RowKit
set_option maxRecDepth 1000000
set_option maxHeartbeats 0
def stepK : List Kd := [.int .i64, .int .i64, .int .u16, .int .i64, .int .i64, .int .i64, .int .i64]
structure GY (len : Nat) where
  i : Nat
  n : Nat
  hi : i ≤ len
  hn : n ≤ 3000
def retB (W : World) (v : SV) (m : Mem XN) : Prop := match v with
  | .c (.boo _ _) => seenOf m.hp = some W
  | _ => Stuck 871
def grS (len : Nat) : Scr XN := .inv (liveL [0, 2, 3, 5, 6, 7, 8]) [] (GY len) (fun _ y => ([(3, .c (.int false .i64 (y.n : Int))), (8, .c (.int false .i64 (y.i : Int)))], [])) (fun y => len - y.i) fun _ => .both (.both .nil .nil) .nil
/-- What the executor leaves to be shown of roundelay/roundelaylaw06.great, written out. -/
theorem great_vc (W : World) (a : Option Addr) (len cap : Nat) : (callN Try.prog ([] : List (Smry Try.prog XN)) (fun _ _ => false) 100 20 30 [.c (.sliv a false len cap)] ⟨[(0, .seen W)], 100⟩ (grS len) (fun v m _ => retB W v m)) = (
    (∃ (y : GY len), a = a ∧ len = len ∧ cap = cap ∧ a = a ∧ len = len ∧ cap = cap ∧ (↑len : Int) = (↑len : Int) ∧ W = W ∧ (↑y.n : Int) = (0 : Int) ∧ (↑y.i : Int) = (0 : Int) ∧ True) ∧
    ∀ (y : GY len) (ρ : Nat → Value), (decide ((↑y.i : Int) < (↑len : Int)) = true → ((0 : Int) ≤ (↑y.i : Int) ∧ (↑y.i : Int) < (↑len : Int) ∧ a.isSome = true) ∧ ((∃ (x : Addr), addOpt
    (addOpt a ((↑y.i : Int).toNat * Try.prog.types[(85 : Nat)].size)) (0 : Nat) = some x ∧ W.cell? x = some (Value.int IntKind.i64 (seenInt IntKind.i64 W (addOpt (addOpt a ((↑y.i :
    Int).toNat * (7 : Nat))) (0 : Nat))))) ∧ (∃ (x : Addr), addOpt (addOpt a ((↑y.i : Int).toNat * Try.prog.types[(85 : Nat)].size)) ((0 : Nat) + (1 : Nat)) = some x ∧ W.cell? x = some
    (Value.int IntKind.i64 (seenInt IntKind.i64 W (addOpt (addOpt a ((↑y.i : Int).toNat * (7 : Nat))) (1 : Nat))))) ∧ (∃ (x : Addr), addOpt (addOpt a ((↑y.i : Int).toNat *
    Try.prog.types[(85 : Nat)].size)) ((0 : Nat) + (1 : Nat) + (1 : Nat)) = some x ∧ W.cell? x = some (Value.int IntKind.u16 (seenInt IntKind.u16 W (addOpt (addOpt a ((↑y.i : Int).toNat
    * (7 : Nat))) (2 : Nat))))) ∧ (∃ (x : Addr), addOpt (addOpt a ((↑y.i : Int).toNat * Try.prog.types[(85 : Nat)].size)) ((0 : Nat) + (1 : Nat) + (1 : Nat) + (1 : Nat)) = some x ∧
    W.cell? x = some (Value.int IntKind.i64 (seenInt IntKind.i64 W (addOpt (addOpt a ((↑y.i : Int).toNat * (7 : Nat))) (3 : Nat))))) ∧ (∃ (x : Addr), addOpt (addOpt a ((↑y.i :
    Int).toNat * Try.prog.types[(85 : Nat)].size)) ((0 : Nat) + (1 : Nat) + (1 : Nat) + (1 : Nat) + (1 : Nat)) = some x ∧ W.cell? x = some (Value.int IntKind.i64 (seenInt IntKind.i64 W
    (addOpt (addOpt a ((↑y.i : Int).toNat * (7 : Nat))) (4 : Nat))))) ∧ (∃ (x : Addr), addOpt (addOpt a ((↑y.i : Int).toNat * Try.prog.types[(85 : Nat)].size)) ((0 : Nat) + (1 : Nat) +
    (1 : Nat) + (1 : Nat) + (1 : Nat) + (1 : Nat)) = some x ∧ W.cell? x = some (Value.int IntKind.i64 (seenInt IntKind.i64 W (addOpt (addOpt a ((↑y.i : Int).toNat * (7 : Nat))) (5 :
    Nat))))) ∧ (∃ (x : Addr), addOpt (addOpt a ((↑y.i : Int).toNat * Try.prog.types[(85 : Nat)].size)) ((0 : Nat) + (1 : Nat) + (1 : Nat) + (1 : Nat) + (1 : Nat) + (1 : Nat) + (1 :
    Nat)) = some x ∧ W.cell? x = some (Value.int IntKind.i64 (seenInt IntKind.i64 W (addOpt (addOpt a ((↑y.i : Int).toNat * (7 : Nat))) (6 : Nat))))) ∧ True) ∧ ((-9223372036854775808 :
    Int) ≤ (↑y.n : Int) + ((1 : Int) + seenInt IntKind.u16 W (addOpt (addOpt a ((↑y.i : Int).toNat * (7 : Nat))) (2 : Nat)) % (300 : Int)) ∧ (↑y.n : Int) + ((1 : Int) + seenInt
    IntKind.u16 W (addOpt (addOpt a ((↑y.i : Int).toNat * (7 : Nat))) (2 : Nat)) % (300 : Int)) ≤ (9223372036854775807 : Int)) ∧ (decide ((↑y.n : Int) + ((1 : Int) + seenInt IntKind.u16
    W (addOpt (addOpt a ((↑y.i : Int).toNat * (7 : Nat))) (2 : Nat)) % (300 : Int)) > (3000 : Int)) = true → some W = some W) ∧ (decide ((↑y.n : Int) + ((1 : Int) + seenInt IntKind.u16
    W (addOpt (addOpt a ((↑y.i : Int).toNat * (7 : Nat))) (2 : Nat)) % (300 : Int)) > (3000 : Int)) = false → ((-9223372036854775808 : Int) ≤ (↑y.i : Int) + (1 : Int) ∧ (↑y.i : Int) +
    (1 : Int) ≤ (9223372036854775807 : Int)) ∧ ∃ (y' : GY len), len - y'.i < len - y.i ∧ a = a ∧ len = len ∧ cap = cap ∧ a = a ∧ len = len ∧ cap = cap ∧ (↑len : Int) = (↑len : Int) ∧ W
    = W ∧ (↑y'.n : Int) = (↑y.n : Int) + ((1 : Int) + seenInt IntKind.u16 W (addOpt (addOpt a ((↑y.i : Int).toNat * (7 : Nat))) (2 : Nat)) % (300 : Int)) ∧ (↑y'.i : Int) = (↑y.i : Int)
    + (1 : Int) ∧ True)) ∧ (decide ((↑y.i : Int) < (↑len : Int)) = false → some W = some W)) := by
  kernel_rfl
theorem great_run (W : World) (a : Option Addr) (len cap : Nat) (hc : (0 < len → a.isSome = true) ∧ (∀ j, j < len → SeenL W (addOpt a (j * 7)) 0 stepK) ∧ len ≤ maxLen) : Run (callN Try.prog ([] : List (Smry Try.prog XN)) (fun _ _ => false) 100 20 30 [.c (.sliv a false len cap)] ⟨[(0, .seen W)], 100⟩ (grS len) (fun v m _ => retB W v m)) := by
  constructor
  rw [great_vc]
  obtain ⟨h1, h2, h3⟩ := hc
  unfold maxLen at h3
  refine ⟨⟨⟨0, 0, Nat.zero_le _, Nat.zero_le _⟩, ?_⟩, fun y ρ => ⟨fun hlt => ?_, fun hge => rfl⟩⟩
  · repeat' first
      | with_reducible apply And.intro
      | with_reducible exact trivial
      | with_reducible exact Eq.refl _
      | exact rfl
  · have hlt' : y.i < len := by have := of_decide_eq_true hlt; omega
    have hk := h2 y.i hlt'
    have hb := seenInt_bd .u16 W (addOpt (addOpt a (y.i * 7)) 2)
    have m1 := Int.emod_nonneg (seenInt .u16 W (addOpt (addOpt a (y.i * 7)) 2)) (show (300 : Int) ≠ 0 by decide)
    have m2 := Int.emod_lt_of_pos (seenInt .u16 W (addOpt (addOpt a (y.i * 7)) 2)) (show (0 : Int) < 300 by decide)
    have hn := y.hn
    simp only [Int.toNat_natCast]
    refine ⟨⟨by omega, by omega, h1 (by omega)⟩, hk, ⟨by omega, by omega⟩, fun _ => trivial, fun h => ?_⟩
    have h := of_decide_eq_false h
    refine ⟨⟨by omega, by omega⟩, ⟨⟨y.i + 1, ((y.n : Int) + (1 + seenInt .u16 W (addOpt (addOpt a (y.i * 7)) 2) % 300)).toNat, by omega, by omega⟩, ?_⟩⟩
    repeat' first
      | with_reducible apply And.intro
      | with_reducible exact trivial
      | with_reducible exact Eq.refl _
      | (show len - (y.i + 1) < len - y.i; omega)
      | (show ((y.i + 1 : Nat) : Int) = (y.i : Int) + 1; omega)
      | (show ((((y.n : Int) + (1 + seenInt .u16 W (addOpt (addOpt a (y.i * 7)) 2) % 300)).toNat : Nat) : Int) = _; omega)
/-- Either answer. -/
def greatS : Smry Try.prog XN where
  g := 30
  run := fun args m K => match args with
    | [.c (.sliv a _ len cap)] => match m.hp.get 0 with
      | some (.seen W) => ((0 < len → a.isSome = true) ∧ (∀ j, j < len → SeenL W (addOpt a (j * 7)) 0 stepK) ∧ len ≤ maxLen) ∧ ∀ b : Bool, K (.c (.boo false b)) m
      | _ => Stuck 872
    | _ => Stuck 873
  ok := fun args m K hr => by
    split at hr <;> try exact hr.elim
    rename_i a ll len cap
    split at hr <;> try exact hr.elim
    rename_i W hW
    obtain ⟨hc, hr⟩ := hr
    intro ν w R w0 Hs HK
    have H1 := Hs
    rw [SH.den_get ν hW, Assn.mul_assoc] at H1
    have H2 : Sat w ((⟨[(0, .seen W)], 100⟩ : Mem XN).hp.den ν * ((m.hp.del 0).den ν * R)) := by
      refine H1.cast ?_
      simp only [SH.den, SO.den]
      rw [Assn.mul_comm (old W) (1 : Assn), Assn.one_mul]
    refine (callN_ok namesOk mixed _ _ _ _ _ _ ⟨[(0, .seen W)], 100⟩ _ _ (great_run W a len cap hc).out ν w _ w0 H2 HK).mono ?_
    rintro e w' ⟨v, m', s', ξ, hv, _, _, he, hs, hk⟩
    unfold retB at hv
    split at hv
    · rename_i l b
      obtain ⟨Q, hQ⟩ := seenOf_den (ν := ξ) hv
      rw [hQ, Assn.mul_assoc] at hs
      refine ⟨_, m, ν, hr b, Agree.refl _ _, Nat.le_refl _, by rw [he]; rfl, ?_, hk⟩
      rw [SH.den_get ν hW, Assn.mul_assoc]
      exact hs.right
    · exact hv.elim
theorem law_true1 {E : EXT} {T : List (Smry Try.prog E)} {wr : FuncId → Nat → Bool} {LF k : Nat} {g : FuncId} {args : List SV} {s : Scr E} (h : Run (callN Try.prog T wr LF k g args ⟨[], 1⟩ s fun v _ _ => retTrue v)) (W : World) :
    Calls Try.prog g (args.map (SV.den fun _ => 0)).toArray W fun e w' => e = .returned (.bool true) ∧ Below W.heap.size W w' := by
  have H : Sat W (SH.den (fun _ => 0) (⟨[], 1⟩ : Mem E).hp * old W) := by
    simp only [SH.den]
    rw [Assn.one_mul]
    exact Sat.old W
  refine (callN_ok namesOk mixed T wr LF k g args ⟨[], 1⟩ s _ h.out (fun _ => 0) W (old W) W H (Kept.refl W)).mono ?_
  rintro e w' ⟨v, m', s', μ, hv, _, _, he, hs, hk⟩
  exact ⟨by rw [he, retTrue_den hv], Below.of_old hs hk⟩
end Go.Proofs.Ytaflaaiomlijbaa
