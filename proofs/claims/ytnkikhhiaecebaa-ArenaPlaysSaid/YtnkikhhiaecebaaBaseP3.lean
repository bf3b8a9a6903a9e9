/- The statements of layer 3: first answers true, by the executor over arenas that are known. -/
import Derived.Test.YtnkikhhiaecebaaBaseAP6
import Derived.Test.YtnkikhhiaecebaaBaseC
set_option linter.all false
namespace Go.Proofs.Ytnkikhhiaecebaa
open Go Go.RowKit
set_option maxRecDepth 1000000
set_option maxHeartbeats 0
def tbl03 : List (Smry Try.prog XP) := [newP, layK, readC.K, writeC.K, addC.K, swapC.K, freeC.K, usedC.K, peakC.K, lenC.K, sizeC.K, faultsP, wordsR, blocksK]
theorem first03_vc  : (callN Try.prog (tbl03 : List (Smry Try.prog XP)) (fun _ _ => false) 100 20 11 [] ⟨[], 0⟩ (.know) (fun v _ _ => retTrue v)) = (
 ∀ (cap : Nat), 9 ≤ cap → true = true ∧ ∀ (cap : Nat) (hf : Nat → Int) (nf : Nat → Nat) (z : Nat → Option Addr × Nat), true = true) := by
  kernel_rfl
theorem first03_run  (hc : True) : Run (callN Try.prog (tbl03 : List (Smry Try.prog XP)) (fun _ _ => false) 100 20 11 [] ⟨[], 0⟩ (.know) (fun v _ _ => retTrue v)) := by
  constructor
  rw [first03_vc]
  repeat' first
    | with_reducible apply And.intro
    | with_reducible exact trivial
    | with_reducible exact fun (h : true = false) => Bool.noConfusion h
    | with_reducible exact fun (h : false = true) => Bool.noConfusion h
    | with_reducible exact fun _ h => h
    | intro _
    | with_reducible exact Eq.refl _
    | decide
end Go.Proofs.Ytnkikhhiaecebaa

/- Are operations upon arenas too many to be asked? Either answer; if not, there are a hundred at most. -/
namespace Go.Proofs.Ytnkikhhiaecebaa
open Go Go.RowKit
set_option maxRecDepth 1000000
set_option maxHeartbeats 0
def opK : List Kd := [.int .i64, .int .i64, .int .i64, .sli, .int .u64, .int .u64, .int .i64, .int .u64, .int .u64]
def opW (W : World) (a : Option Addr) (j : Nat) : Option Addr × Nat × Nat := seenSli W (addOpt (addOpt a (j * 9)) 3)
structure OpsOk (W : World) (a : Option Addr) (len : Nat) : Prop where
  some : 0 < len → a.isSome = true
  ops : ∀ j, j < len → SeenL W (addOpt a (j * 9)) 0 opK
  lens : ∀ j, j < len → (opW W a j).2.1 ≤ 9223372036854775807
  words : ∀ j, j < len → ∀ i, i < (opW W a j).2.1 → Seen .u64 W (addOpt (opW W a j).1 i)
  max : len ≤ 9223372036854775807
structure GY3 (len : Nat) where
  i : Nat
  n : Int
  hi : i ≤ len
def retB3 (W : World) (len : Nat) (v : SV) (m : Mem XP) : Prop := match v with
  | .c (.boo _ b) => (b = false → len ≤ 100) ∧ seenOf m.hp = some W
  | _ => Stuck 871
def grS3 (len : Nat) : Scr XP := .inv (liveL [0, 2, 3, 5, 6, 7, 8]) [] (GY3 len) (fun _ y => ([(3, .c (.int false .i64 y.n)), (8, .c (.int false .i64 (y.i : Int)))], [])) (fun y => len - y.i) fun _ => .both (.both .nil .nil) .nil
theorem great3_vc (W : World) (a : Option Addr) (len cap : Nat) : (callN Try.prog ([] : List (Smry Try.prog XP)) (fun _ t => Nat.beq t 16 || Nat.beq t 17) 100 20 12 [.c (.sliv a false len cap)] ⟨[(0, .seen W)], 100⟩ (grS3 len) (fun v m _ => retB3 W len v m)) = (
 (∃ (y : GY3 len), a = a ∧ len = len ∧ cap = cap ∧ a = a ∧ len = len ∧ cap = cap ∧ (↑len : Int) = (↑len : Int) ∧ W = W ∧ y.n = (0 : Int) ∧ (↑y.i : Int) = (0 : Int) ∧ True) ∧ ∀ (y :
 GY3 len) (ρ : Nat → Value), (decide ((↑y.i : Int) < (↑len : Int)) = true → ((0 : Int) ≤ (↑y.i : Int) ∧ (↑y.i : Int) < (↑len : Int) ∧ a.isSome = true) ∧ ((∃ (x : Addr), addOpt
 (addOpt a ((↑y.i : Int).toNat * 9)) 0 = some x ∧ W.cell? x = some (Value.int .i64 (seenInt .i64 W (addOpt (addOpt a ((↑y.i : Int).toNat * 9)) 0)))) ∧ (∃ (x : Addr), addOpt (addOpt a
 ((↑y.i : Int).toNat * 9)) (0 + 1) = some x ∧ W.cell? x = some (Value.int .i64 (seenInt .i64 W (addOpt (addOpt a ((↑y.i : Int).toNat * 9)) 1)))) ∧ (∃ (x : Addr), addOpt (addOpt a
 ((↑y.i : Int).toNat * 9)) (0 + 1 + 1) = some x ∧ W.cell? x = some (Value.int .i64 (seenInt .i64 W (addOpt (addOpt a ((↑y.i : Int).toNat * 9)) 2)))) ∧ (∃ (x : Addr), addOpt (addOpt a
 ((↑y.i : Int).toNat * 9)) (0 + 1 + 1 + 1) = some x ∧ W.cell? x = some (Value.slice (seenSli W (addOpt (addOpt a ((↑y.i : Int).toNat * 9)) (0 + 1 + 1 + 1))).fst (seenSli W (addOpt
 (addOpt a ((↑y.i : Int).toNat * 9)) 3)).snd.fst (seenSli W (addOpt (addOpt a ((↑y.i : Int).toNat * 9)) 3)).snd.snd)) ∧ (∃ (x : Addr), addOpt (addOpt a ((↑y.i : Int).toNat * 9)) (0 +
 1 + 1 + 1 + 1) = some x ∧ W.cell? x = some (Value.int .u64 (seenInt .u64 W (addOpt (addOpt a ((↑y.i : Int).toNat * 9)) 4)))) ∧ (∃ (x : Addr), addOpt (addOpt a ((↑y.i : Int).toNat *
 9)) (0 + 1 + 1 + 1 + 1 + 1) = some x ∧ W.cell? x = some (Value.int .u64 (seenInt .u64 W (addOpt (addOpt a ((↑y.i : Int).toNat * 9)) 5)))) ∧ (∃ (x : Addr), addOpt (addOpt a ((↑y.i :
 Int).toNat * 9)) (0 + 1 + 1 + 1 + 1 + 1 + 1) = some x ∧ W.cell? x = some (Value.int .i64 (seenInt .i64 W (addOpt (addOpt a ((↑y.i : Int).toNat * 9)) 6)))) ∧ (∃ (x : Addr), addOpt
 (addOpt a ((↑y.i : Int).toNat * 9)) (0 + 1 + 1 + 1 + 1 + 1 + 1 + 1) = some x ∧ W.cell? x = some (Value.int .u64 (seenInt .u64 W (addOpt (addOpt a ((↑y.i : Int).toNat * 9)) 7)))) ∧
 (∃ (x : Addr), addOpt (addOpt a ((↑y.i : Int).toNat * 9)) (0 + 1 + 1 + 1 + 1 + 1 + 1 + 1 + 1) = some x ∧ W.cell? x = some (Value.int .u64 (seenInt .u64 W (addOpt (addOpt a ((↑y.i :
 Int).toNat * 9)) 8)))) ∧ True) ∧ (decide (IntKind.i64.wrap (y.n + IntKind.i64.wrap ((20 : Int) + (↑(seenSli W (addOpt (addOpt a ((↑y.i : Int).toNat * 9)) 3)).snd.fst : Int))) >
 (5000 : Int)) = true → (true = false → len ≤ 100) ∧ some W = some W) ∧ (decide (IntKind.i64.wrap (y.n + IntKind.i64.wrap ((20 : Int) + (↑(seenSli W (addOpt (addOpt a ((↑y.i :
 Int).toNat * 9)) 3)).snd.fst : Int))) > (5000 : Int)) = false → ((-9223372036854775808 : Int) ≤ (↑y.i : Int) + (1 : Int) ∧ (↑y.i : Int) + (1 : Int) ≤ (9223372036854775807 : Int)) ∧
 ∃ (y' : GY3 len), len - y'.i < len - y.i ∧ a = a ∧ len = len ∧ cap = cap ∧ a = a ∧ len = len ∧ cap = cap ∧ (↑len : Int) = (↑len : Int) ∧ W = W ∧ y'.n = IntKind.i64.wrap (y.n +
 IntKind.i64.wrap ((20 : Int) + (↑(seenSli W (addOpt (addOpt a ((↑y.i : Int).toNat * 9)) 3)).snd.fst : Int))) ∧ (↑y'.i : Int) = (↑y.i : Int) + (1 : Int) ∧ True)) ∧ (decide ((↑y.i :
 Int) < (↑len : Int)) = false → (decide ((↑len : Int) > (100 : Int)) = false → len ≤ 100) ∧ some W = some W)) := by
  kernel_rfl
theorem great3_run (W : World) (a : Option Addr) (len cap : Nat) (hc : OpsOk W a len) : Run (callN Try.prog ([] : List (Smry Try.prog XP)) (fun _ t => Nat.beq t 16 || Nat.beq t 17) 100 20 12 [.c (.sliv a false len cap)] ⟨[(0, .seen W)], 100⟩ (grS3 len) (fun v m _ => retB3 W len v m)) := by
  constructor
  rw [great3_vc]
  obtain ⟨h1, h2, h4, h5, h3⟩ := hc
  refine ⟨⟨⟨0, 0, Nat.zero_le _⟩, ?_⟩, fun y ρ => ⟨fun hlt => ?_, fun hge => ⟨fun h => ?_, rfl⟩⟩⟩
  · repeat' first
      | with_reducible apply And.intro
      | with_reducible exact trivial
      | with_reducible exact Eq.refl _
      | exact rfl
  · have hlt' : y.i < len := by have := of_decide_eq_true hlt; omega
    have hk := h2 y.i hlt'
    simp only [Int.toNat_natCast]
    refine ⟨⟨by omega, by omega, h1 (by omega)⟩, hk, ?_⟩
    refine ⟨fun _ => ⟨fun h => Bool.noConfusion h, trivial⟩, fun h => ?_⟩
    refine ⟨⟨by omega, by omega⟩, ⟨⟨y.i + 1, IntKind.i64.wrap (y.n + IntKind.i64.wrap (20 + ((seenSli W (addOpt (addOpt a (y.i * 9)) 3)).2.1 : Int))), by omega⟩, ?_⟩⟩
    repeat' first
      | with_reducible apply And.intro
      | with_reducible exact trivial
      | with_reducible exact Eq.refl _
      | (show len - (y.i + 1) < len - y.i; omega)
      | (show ((y.i + 1 : Nat) : Int) = (y.i : Int) + 1; omega)
      | exact rfl
  · have := of_decide_eq_false h
    omega
def great3S : Smry Try.prog XP where
  g := 12
  run := fun args m K => match args with
    | [.c (.sliv a _ len cap)] => match m.hp.get 0 with
      | some (.seen W) => OpsOk W a len ∧ ∀ b : Bool, (b = false → len ≤ 100) → K (.c (.boo false b)) m
      | _ => Stuck 872
    | _ => Stuck 873
  ok := fun args m K hr => by
    split at hr <;> try exact hr.elim
    rename_i a ll len cap
    split at hr <;> try exact hr.elim
    rename_i W hW
    obtain ⟨hc, hr⟩ := hr
    intro ν w R w0 Hs HK
    have H1 := Hs
    rw [SH.den_get ν hW, Assn.mul_assoc] at H1
    have H2 : Sat w ((⟨[(0, .seen W)], 100⟩ : Mem XP).hp.den ν * ((m.hp.del 0).den ν * R)) := by
      refine H1.cast ?_
      simp only [SH.den, SO.den]
      rw [Assn.mul_comm (seenA W) (1 : Assn), Assn.one_mul]
    refine (callN_ok namesOk mixed _ _ _ _ _ _ ⟨[(0, .seen W)], 100⟩ _ _ (great3_run W a len cap hc).out ν w _ w0 H2 HK).mono ?_
    rintro e w' ⟨v, m', s', ξ, hv, _, _, he, hs, hk⟩
    unfold retB3 at hv
    split at hv
    · rename_i l b
      obtain ⟨hb, hv⟩ := hv
      obtain ⟨Q, hQ⟩ := seenOf_den (ν := ξ) hv
      rw [hQ, Assn.mul_assoc] at hs
      refine ⟨_, m, ν, hr b hb, Agree.refl _ _, Nat.le_refl _, by rw [he]; rfl, ?_, hk⟩
      rw [SH.den_get ν hW, Assn.mul_assoc]
      exact hs.right
    · exact hv.elim
end Go.Proofs.Ytnkikhhiaecebaa
