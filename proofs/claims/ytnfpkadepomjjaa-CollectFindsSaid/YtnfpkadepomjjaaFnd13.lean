/- Layer 13's found: true, where the places found are as they ought to be. -/
import Derived.Test.YtnfpkadepomjjaaPlc13
import Derived.Test.YtnfpkadepomjjaaBaseCol
import Derived.Test.YtnfpkadepomjjaaBaseTop
set_option linter.all false
namespace Go.Proofs.Ytnfpkadepomjjaa
open Go Go.RowKit
set_option maxRecDepth 1000000
set_option maxHeartbeats 0
/-- How many of the first j there were. -/
def cntS (som : Nat → Bool) : Nat → Nat
  | 0 => 0
  | j + 1 => cntS som j + (if som j = true then 1 else 0)
theorem cntS_le (som : Nat → Bool) : ∀ n, cntS som n ≤ n
  | 0 => Nat.le_refl 0
  | n + 1 => by
    have := cntS_le som n
    simp only [cntS]
    split <;> omega
def plD (W : World) (a : Option Addr) (i : Nat) : Nat × Nat := ((segG (slF W a i) + 1) * 65537, slF W a i)
def hasD (pl : List (Nat × Nat)) (p : Nat × Nat) : Nat → Bool
  | 0 => false
  | j + 1 => hasD pl p j || (pl.getD j (0, 0) == p)
def wasD (W : World) (a : Option Addr) (som : Nat → Bool) (p : Nat × Nat) : Nat → Bool
  | 0 => false
  | j + 1 => wasD W a som p j || (som j && (p == plD W a j))
abbrev boC (len : Nat) (f : Nat → Bool) : SO XC := .vals 4 1 len len (fun j => [.bool (f j)])
def memF (W : World) (A : Ar) (x : Col) (len cap : Nat) (alw som : Nat → Bool) : SH XC := [(0, .seen W), (1, .ext (HO.old (XO.ar A))), (2, .ext (HO.obj [1] x)), (3, .ints 25 .u64 4 cap hsF), (4, boC len alw), (5, boC len som)]
structure FoundOk (W : World) (a : Option Addr) (len : Nat) (x : Col) (alw som : Nat → Bool) (reads : Nat) : Prop where
  l12 : len ≤ 12
  ph : x.ph = 2
  pl16 : x.pl.length ≤ 16
  hs : 0 < len → a.isSome = true
  hx : ∀ j, j < len → Seen .u8 W (addOpt a j)
  all : ∀ i, i < len → alw i = true → hasD x.pl (plD W a i) x.pl.length = true
  was : ∀ i, i < x.pl.length → wasD W a som (x.pl.getD i (0, 0)) len = true
  up : ∀ i, 0 < i → i < x.pl.length → (x.pl.getD (i - 1) (0, 0)).2 < (x.pl.getD i (0, 0)).2
  few : reads ≤ 16 + 16 * cntS som len
theorem cntS_succ (som : Nat → Bool) (j : Nat) : cntS som (j + 1) = cntS som j + (if som j = true then 1 else 0) := rfl
theorem hasD_succ (pl : List (Nat × Nat)) (p : Nat × Nat) (j : Nat) : hasD pl p (j + 1) = (hasD pl p j || (pl.getD j (0, 0) == p)) := rfl
theorem wasD_succ (W : World) (a : Option Addr) (som : Nat → Bool) (p : Nat × Nat) (j : Nat) : wasD W a som p (j + 1) = (wasD W a som p j || (som j && (p == plD W a j))) := rfl
theorem cmpD (W : World) (a : Option Addr) (i : Nat) (p : Nat × Nat) : (true == (((p.1 : Int) == hsF (segG (seenInt .u8 W (addOpt a i) % 15).toNat)) && (((p.2 : Int) == seenInt .u8 W (addOpt a i) % 15) && true))) = (p == plD W a i) := by
  have h2 := Int.emod_nonneg (seenInt .u8 W (addOpt a i)) (show (15 : Int) ≠ 0 by omega)
  have e : (seenInt .u8 W (addOpt a i) % 15) = (slF W a i : Nat) := by unfold slF; omega
  have e2 : (seenInt .u8 W (addOpt a i) % 15).toNat = slF W a i := rfl
  rw [e2, e]
  obtain ⟨p1, p2⟩ := p
  unfold plD hsF
  dsimp only
  have k1 : ((p1 : Int) == (((segG (slF W a i) + 1) * 65537 : Nat) : Int)) = (p1 == (segG (slF W a i) + 1) * 65537) := by
    by_cases h : p1 = (segG (slF W a i) + 1) * 65537
    · rw [beq_iff_eq.2 h, beq_iff_eq]; omega
    · rw [beq_eq_false_iff_ne.2 h, beq_eq_false_iff_ne]; omega
  have k2 : ((p2 : Int) == ((slF W a i : Nat) : Int)) = (p2 == slF W a i) := by
    by_cases h : p2 = slF W a i
    · rw [beq_iff_eq.2 h, beq_iff_eq]; omega
    · rw [beq_eq_false_iff_ne.2 h, beq_eq_false_iff_ne]; omega
  rw [k1, k2, Bool.and_true]
  show (true == (p1 == (segG (slF W a i) + 1) * 65537 && p2 == slF W a i)) = (p1 == (segG (slF W a i) + 1) * 65537 && p2 == slF W a i)
  cases (p1 == (segG (slF W a i) + 1) * 65537 && p2 == slF W a i) <;> rfl
def iA (len : Nat) (som : Nat → Bool) (_ : Nat) (z : {j : Nat // j ≤ len}) : List (Nat × SV) × List (Nat × SO XC) := ([(29, .c (.int false .i64 (z.1 : Int))), (14, .c (.int false .i64 (cntS som z.1 : Nat)))], [])
def iB (pl : List (Nat × Nat)) (p : Nat × Nat) (_ : Nat) (z : {j : Nat // j ≤ pl.length}) : List (Nat × SV) × List (Nat × SO XC) := ([(42, .c (.int false .i64 (z.1 : Int))), (17, .c (.boo false (hasD pl p z.1)))], [])
def iC (L : Nat) (_ : Nat) (z : {j : Nat // j ≤ L}) : List (Nat × SV) × List (Nat × SO XC) := ([(66, .c (.int false .i64 (z.1 : Int)))], [])
def iD (W : World) (a : Option Addr) (len : Nat) (som : Nat → Bool) (p : Nat × Nat) (_ : Nat) (z : {j : Nat // j ≤ len}) : List (Nat × SV) × List (Nat × SO XC) := ([(73, .c (.int false .i64 (z.1 : Int))), (22, .c (.boo false (wasD W a som p z.1)))], [])
def scrFo (W : World) (a : Option Addr) (len : Nat) (pl : List (Nat × Nat)) (som : Nat → Bool) : Scr XC :=
  .inv (liveL [1, 2, 3, 4, 5, 13, 14, 27, 28, 29]) [] {j : Nat // j ≤ len} (iA len som) (fun z => len - z.1) fun z => .both
    (.inv (liveL [1, 2, 3, 4, 5, 13, 14, 15, 16, 17, 27, 28, 29, 40, 41, 42]) [] {j : Nat // j ≤ pl.length} (iB pl (plD W a z.1)) (fun u => pl.length - u.1) fun _ => .both .nil .nil)
    (.inv (liveL [1, 2, 3, 4, 5, 13, 14, 64, 65, 66]) [] {j : Nat // j ≤ pl.length} (iC pl.length) (fun z => pl.length - z.1) fun z => .both
      (.inv (liveL [1, 2, 3, 4, 5, 13, 14, 20, 21, 22, 64, 65, 66, 71, 72, 73]) [] {j : Nat // j ≤ len} (iD W a len som (pl.getD z.1 (0, 0))) (fun u => len - u.1) fun _ => .both .nil .nil)
      .nil)
def tblFo : List (Smry Try.prog XC) := [colPlacesX, placeX.lift]
/-- What the executor leaves to be shown of roundelay/roundelaylaw13.found, written out. -/
theorem found13_vc (W : World) (A : Ar) (x : Col) (a : Option Addr) (len cap scap : Nat) (alw som : Nat → Bool) (reads : Nat) : (callN Try.prog (tblFo : List (Smry Try.prog XC)) (fun _ _ => false) 100 20 17 [.c (.ptr 2 0), .c (.sli 3 1 true 0 true 4 cap), .c (.sliv a false len scap), .c (.sli 4 1 true 0 false len len), .c (.sli 5 1 true 0 false len len), .c (.int false .i64 (reads : Int))] ⟨memF W A x len cap alw som, 100⟩ (scrFo W a len x.pl som) (fun v m _ => outM (.c (.boo false true)) (memF W A x len cap alw som) v m)) = (
    (x.ph = (2 : Nat) ∧ x.pl.length < (1000000000 : Nat)) ∧ (x.pl.length = (0 : Nat) → (∃ (y : { j : Nat // j ≤ len }), (0 : Nat) = (0 : Nat) ∧ cap = cap ∧ a = a ∧ len = len ∧ scap =
    scap ∧ (0 : Nat) = (0 : Nat) ∧ len = len ∧ len = len ∧ (0 : Nat) = (0 : Nat) ∧ len = len ∧ len = len ∧ (↑reads : Int) = (↑reads : Int) ∧ a = a ∧ len = len ∧ scap = scap ∧ (↑len :
    Int) = (↑len : Int) ∧ W = W ∧ HO.old (E := XE) (H := colH) (XO.ar A) = HO.old (E := XE) (H := colH) (XO.ar A) ∧ HO.obj (E := XE) (H := colH) [(1 : Nat)] x = HO.obj (E := XE) (H :=
    colH) [(1 : Nat)] x ∧ (4 : Nat) = (4 : Nat) ∧ cap = cap ∧ hsF = hsF ∧ len = len ∧ len = len ∧ ((fun (j : Nat) => [Value.bool (alw j)]) = fun (j : Nat) => [Value.bool (alw j)]) ∧ len
    = len ∧ len = len ∧ ((fun (j : Nat) => [Value.bool (som j)]) = fun (j : Nat) => [Value.bool (som j)]) ∧ (↑y.val : Int) = (0 : Int) ∧ (↑(cntS som y.val) : Int) = (0 : Int) ∧ True) ∧
    ∀ (y : { j : Nat // j ≤ len }) (ρ : Nat → Value), (decide ((↑y.val : Int) < (↑len : Int)) = true → ((0 : Int) ≤ (↑y.val : Int) ∧ (↑y.val : Int) < (↑len : Int) ∧ a.isSome = true) ∧
    (∃ (x : Addr), addOpt a (↑y.val : Int).toNat = some x ∧ W.cell? x = some (Value.int IntKind.u8 (seenInt IntKind.u8 W (addOpt a (↑y.val : Int).toNat)))) ∧ ((0 : Int) ≤ (↑y.val : Int)
    ∧ (↑y.val : Int) < (↑len : Int)) ∧ addO true (0 : Nat) (↑y.val : Int).toNat < len ∧ (som (addO true (0 : Nat) (↑y.val : Int).toNat) = true → ((-9223372036854775808 : Int) ≤ (↑(cntS
    som y.val) : Int) + (1 : Int) ∧ (↑(cntS som y.val) : Int) + (1 : Int) ≤ (9223372036854775807 : Int)) ∧ (∃ (y_1 : { j : Nat // j ≤ x.pl.length }), (0 : Nat) = (0 : Nat) ∧ cap = cap ∧
    a = a ∧ len = len ∧ scap = scap ∧ (0 : Nat) = (0 : Nat) ∧ len = len ∧ len = len ∧ (0 : Nat) = (0 : Nat) ∧ len = len ∧ len = len ∧ (↑reads : Int) = (↑reads : Int) ∧ (↑(cntS som
    y.val) : Int) + (1 : Int) = (↑(cntS som y.val) : Int) + (1 : Int) ∧ (↑y.val : Int) = (↑y.val : Int) ∧ seenInt IntKind.u8 W (addOpt a (↑y.val : Int).toNat) = seenInt IntKind.u8 W
    (addOpt a (↑y.val : Int).toNat) ∧ a = a ∧ len = len ∧ scap = scap ∧ (↑len : Int) = (↑len : Int) ∧ (↑y.val : Int) = (↑y.val : Int) ∧ W = W ∧ HO.old (E := XE) (H := colH) (XO.ar A) =
    HO.old (E := XE) (H := colH) (XO.ar A) ∧ HO.obj (E := XE) (H := colH) [(1 : Nat)] x = HO.obj (E := XE) (H := colH) [(1 : Nat)] x ∧ (4 : Nat) = (4 : Nat) ∧ cap = cap ∧ hsF = hsF ∧
    len = len ∧ len = len ∧ ((fun (j : Nat) => [Value.bool (alw j)]) = fun (j : Nat) => [Value.bool (alw j)]) ∧ len = len ∧ len = len ∧ ((fun (j : Nat) => [Value.bool (som j)]) = fun (j
    : Nat) => [Value.bool (som j)]) ∧ (↑y_1.val : Int) = (0 : Int) ∧ hasD x.pl (plD W a y.val) y_1.val = false ∧ True) ∧ ∀ (y_1 : { j : Nat // j ≤ x.pl.length }) (ρ : Nat → Value),
    (decide ((↑y_1.val : Int) < (0 : Int)) = true → Stuck (74 : Nat)) ∧ (decide ((↑y_1.val : Int) < (0 : Int)) = false → ((0 : Int) ≤ (↑y.val : Int) ∧ (↑y.val : Int) < (↑len : Int)) ∧
    addO true (0 : Nat) (↑y.val : Int).toNat < len ∧ (alw (addO true (0 : Nat) (↑y.val : Int).toNat) = true → ((!hasD x.pl (plD W a y.val) y_1.val) = true → true = false ∧ W = W ∧ A = A
    ∧ x = x ∧ ((4 : Nat) = (4 : Nat) ∧ cap = cap ∧ ∀ (i : Nat), i < (4 : Nat) → hsF i = hsF i) ∧ (len = len ∧ len = len ∧ ∀ (i : Nat), i < len → [Value.bool (alw i)] = [Value.bool (alw
    i)]) ∧ (len = len ∧ len = len ∧ ∀ (i : Nat), i < len → [Value.bool (som i)] = [Value.bool (som i)]) ∧ True) ∧ ((!hasD x.pl (plD W a y.val) y_1.val) = false → ((-9223372036854775808
    : Int) ≤ (↑y.val : Int) + (1 : Int) ∧ (↑y.val : Int) + (1 : Int) ≤ (9223372036854775807 : Int)) ∧ ∃ (y' : { j : Nat // j ≤ len }), len - y'.val < len - y.val ∧ (0 : Nat) = (0 : Nat)
    ∧ cap = cap ∧ a = a ∧ len = len ∧ scap = scap ∧ (0 : Nat) = (0 : Nat) ∧ len = len ∧ len = len ∧ (0 : Nat) = (0 : Nat) ∧ len = len ∧ len = len ∧ (↑reads : Int) = (↑reads : Int) ∧ a =
    a ∧ len = len ∧ scap = scap ∧ (↑len : Int) = (↑len : Int) ∧ W = W ∧ HO.old (E := XE) (H := colH) (XO.ar A) = HO.old (E := XE) (H := colH) (XO.ar A) ∧ HO.obj (E := XE) (H := colH)
    [(1 : Nat)] x = HO.obj (E := XE) (H := colH) [(1 : Nat)] x ∧ (4 : Nat) = (4 : Nat) ∧ cap = cap ∧ hsF = hsF ∧ len = len ∧ len = len ∧ ((fun (j : Nat) => [Value.bool (alw j)]) = fun
    (j : Nat) => [Value.bool (alw j)]) ∧ len = len ∧ len = len ∧ ((fun (j : Nat) => [Value.bool (som j)]) = fun (j : Nat) => [Value.bool (som j)]) ∧ (↑y'.val : Int) = (↑y.val : Int) +
    (1 : Int) ∧ (↑(cntS som y'.val) : Int) = (↑(cntS som y.val) : Int) + (1 : Int) ∧ True)) ∧ (alw (addO true (0 : Nat) (↑y.val : Int).toNat) = false → ((-9223372036854775808 : Int) ≤
    (↑y.val : Int) + (1 : Int) ∧ (↑y.val : Int) + (1 : Int) ≤ (9223372036854775807 : Int)) ∧ ∃ (y' : { j : Nat // j ≤ len }), len - y'.val < len - y.val ∧ (0 : Nat) = (0 : Nat) ∧ cap =
    cap ∧ a = a ∧ len = len ∧ scap = scap ∧ (0 : Nat) = (0 : Nat) ∧ len = len ∧ len = len ∧ (0 : Nat) = (0 : Nat) ∧ len = len ∧ len = len ∧ (↑reads : Int) = (↑reads : Int) ∧ a = a ∧ len
    = len ∧ scap = scap ∧ (↑len : Int) = (↑len : Int) ∧ W = W ∧ HO.old (E := XE) (H := colH) (XO.ar A) = HO.old (E := XE) (H := colH) (XO.ar A) ∧ HO.obj (E := XE) (H := colH) [(1 :
    Nat)] x = HO.obj (E := XE) (H := colH) [(1 : Nat)] x ∧ (4 : Nat) = (4 : Nat) ∧ cap = cap ∧ hsF = hsF ∧ len = len ∧ len = len ∧ ((fun (j : Nat) => [Value.bool (alw j)]) = fun (j :
    Nat) => [Value.bool (alw j)]) ∧ len = len ∧ len = len ∧ ((fun (j : Nat) => [Value.bool (som j)]) = fun (j : Nat) => [Value.bool (som j)]) ∧ (↑y'.val : Int) = (↑y.val : Int) + (1 :
    Int) ∧ (↑(cntS som y'.val) : Int) = (↑(cntS som y.val) : Int) + (1 : Int) ∧ True))) ∧ (som (addO true (0 : Nat) (↑y.val : Int).toNat) = false → (∃ (y_1 : { j : Nat // j ≤
    x.pl.length }), (0 : Nat) = (0 : Nat) ∧ cap = cap ∧ a = a ∧ len = len ∧ scap = scap ∧ (0 : Nat) = (0 : Nat) ∧ len = len ∧ len = len ∧ (0 : Nat) = (0 : Nat) ∧ len = len ∧ len = len ∧
    (↑reads : Int) = (↑reads : Int) ∧ (↑(cntS som y.val) : Int) = (↑(cntS som y.val) : Int) ∧ (↑y.val : Int) = (↑y.val : Int) ∧ seenInt IntKind.u8 W (addOpt a (↑y.val : Int).toNat) =
    seenInt IntKind.u8 W (addOpt a (↑y.val : Int).toNat) ∧ a = a ∧ len = len ∧ scap = scap ∧ (↑len : Int) = (↑len : Int) ∧ (↑y.val : Int) = (↑y.val : Int) ∧ W = W ∧ HO.old (E := XE) (H
    := colH) (XO.ar A) = HO.old (E := XE) (H := colH) (XO.ar A) ∧ HO.obj (E := XE) (H := colH) [(1 : Nat)] x = HO.obj (E := XE) (H := colH) [(1 : Nat)] x ∧ (4 : Nat) = (4 : Nat) ∧ cap =
    cap ∧ hsF = hsF ∧ len = len ∧ len = len ∧ ((fun (j : Nat) => [Value.bool (alw j)]) = fun (j : Nat) => [Value.bool (alw j)]) ∧ len = len ∧ len = len ∧ ((fun (j : Nat) => [Value.bool
    (som j)]) = fun (j : Nat) => [Value.bool (som j)]) ∧ (↑y_1.val : Int) = (0 : Int) ∧ hasD x.pl (plD W a y.val) y_1.val = false ∧ True) ∧ ∀ (y_1 : { j : Nat // j ≤ x.pl.length }) (ρ :
    Nat → Value), (decide ((↑y_1.val : Int) < (0 : Int)) = true → Stuck (74 : Nat)) ∧ (decide ((↑y_1.val : Int) < (0 : Int)) = false → ((0 : Int) ≤ (↑y.val : Int) ∧ (↑y.val : Int) <
    (↑len : Int)) ∧ addO true (0 : Nat) (↑y.val : Int).toNat < len ∧ (alw (addO true (0 : Nat) (↑y.val : Int).toNat) = true → ((!hasD x.pl (plD W a y.val) y_1.val) = true → true = false
    ∧ W = W ∧ A = A ∧ x = x ∧ ((4 : Nat) = (4 : Nat) ∧ cap = cap ∧ ∀ (i : Nat), i < (4 : Nat) → hsF i = hsF i) ∧ (len = len ∧ len = len ∧ ∀ (i : Nat), i < len → [Value.bool (alw i)] =
    [Value.bool (alw i)]) ∧ (len = len ∧ len = len ∧ ∀ (i : Nat), i < len → [Value.bool (som i)] = [Value.bool (som i)]) ∧ True) ∧ ((!hasD x.pl (plD W a y.val) y_1.val) = false →
    ((-9223372036854775808 : Int) ≤ (↑y.val : Int) + (1 : Int) ∧ (↑y.val : Int) + (1 : Int) ≤ (9223372036854775807 : Int)) ∧ ∃ (y' : { j : Nat // j ≤ len }), len - y'.val < len - y.val
    ∧ (0 : Nat) = (0 : Nat) ∧ cap = cap ∧ a = a ∧ len = len ∧ scap = scap ∧ (0 : Nat) = (0 : Nat) ∧ len = len ∧ len = len ∧ (0 : Nat) = (0 : Nat) ∧ len = len ∧ len = len ∧ (↑reads :
    Int) = (↑reads : Int) ∧ a = a ∧ len = len ∧ scap = scap ∧ (↑len : Int) = (↑len : Int) ∧ W = W ∧ HO.old (E := XE) (H := colH) (XO.ar A) = HO.old (E := XE) (H := colH) (XO.ar A) ∧
    HO.obj (E := XE) (H := colH) [(1 : Nat)] x = HO.obj (E := XE) (H := colH) [(1 : Nat)] x ∧ (4 : Nat) = (4 : Nat) ∧ cap = cap ∧ hsF = hsF ∧ len = len ∧ len = len ∧ ((fun (j : Nat) =>
    [Value.bool (alw j)]) = fun (j : Nat) => [Value.bool (alw j)]) ∧ len = len ∧ len = len ∧ ((fun (j : Nat) => [Value.bool (som j)]) = fun (j : Nat) => [Value.bool (som j)]) ∧ (↑y'.val
    : Int) = (↑y.val : Int) + (1 : Int) ∧ (↑(cntS som y'.val) : Int) = (↑(cntS som y.val) : Int) ∧ True)) ∧ (alw (addO true (0 : Nat) (↑y.val : Int).toNat) = false →
    ((-9223372036854775808 : Int) ≤ (↑y.val : Int) + (1 : Int) ∧ (↑y.val : Int) + (1 : Int) ≤ (9223372036854775807 : Int)) ∧ ∃ (y' : { j : Nat // j ≤ len }), len - y'.val < len - y.val
    ∧ (0 : Nat) = (0 : Nat) ∧ cap = cap ∧ a = a ∧ len = len ∧ scap = scap ∧ (0 : Nat) = (0 : Nat) ∧ len = len ∧ len = len ∧ (0 : Nat) = (0 : Nat) ∧ len = len ∧ len = len ∧ (↑reads :
    Int) = (↑reads : Int) ∧ a = a ∧ len = len ∧ scap = scap ∧ (↑len : Int) = (↑len : Int) ∧ W = W ∧ HO.old (E := XE) (H := colH) (XO.ar A) = HO.old (E := XE) (H := colH) (XO.ar A) ∧
    HO.obj (E := XE) (H := colH) [(1 : Nat)] x = HO.obj (E := XE) (H := colH) [(1 : Nat)] x ∧ (4 : Nat) = (4 : Nat) ∧ cap = cap ∧ hsF = hsF ∧ len = len ∧ len = len ∧ ((fun (j : Nat) =>
    [Value.bool (alw j)]) = fun (j : Nat) => [Value.bool (alw j)]) ∧ len = len ∧ len = len ∧ ((fun (j : Nat) => [Value.bool (som j)]) = fun (j : Nat) => [Value.bool (som j)]) ∧ (↑y'.val
    : Int) = (↑y.val : Int) + (1 : Int) ∧ (↑(cntS som y'.val) : Int) = (↑(cntS som y.val) : Int) ∧ True)))) ∧ (decide ((↑y.val : Int) < (↑len : Int)) = false → (∃ (y_1 : { j : Nat // j
    ≤ x.pl.length }), (0 : Nat) = (0 : Nat) ∧ cap = cap ∧ a = a ∧ len = len ∧ scap = scap ∧ (0 : Nat) = (0 : Nat) ∧ len = len ∧ len = len ∧ (0 : Nat) = (0 : Nat) ∧ len = len ∧ len = len
    ∧ (↑reads : Int) = (↑reads : Int) ∧ (↑(cntS som y.val) : Int) = (↑(cntS som y.val) : Int) ∧ W = W ∧ HO.old (E := XE) (H := colH) (XO.ar A) = HO.old (E := XE) (H := colH) (XO.ar A) ∧
    HO.obj (E := XE) (H := colH) [(1 : Nat)] x = HO.obj (E := XE) (H := colH) [(1 : Nat)] x ∧ (4 : Nat) = (4 : Nat) ∧ cap = cap ∧ hsF = hsF ∧ len = len ∧ len = len ∧ ((fun (j : Nat) =>
    [Value.bool (alw j)]) = fun (j : Nat) => [Value.bool (alw j)]) ∧ len = len ∧ len = len ∧ ((fun (j : Nat) => [Value.bool (som j)]) = fun (j : Nat) => [Value.bool (som j)]) ∧
    (↑y_1.val : Int) = (0 : Int) ∧ True) ∧ ∀ (y_1 : { j : Nat // j ≤ x.pl.length }) (ρ : Nat → Value), (decide ((↑y_1.val : Int) < (0 : Int)) = true → Stuck (74 : Nat)) ∧ (decide
    ((↑y_1.val : Int) < (0 : Int)) = false → ((-9223372036854775808 : Int) ≤ (16 : Int) * (↑(cntS som y.val) : Int) ∧ (16 : Int) * (↑(cntS som y.val) : Int) ≤ (9223372036854775807 :
    Int)) ∧ ((-9223372036854775808 : Int) ≤ (16 : Int) + (16 : Int) * (↑(cntS som y.val) : Int) ∧ (16 : Int) + (16 : Int) * (↑(cntS som y.val) : Int) ≤ (9223372036854775807 : Int)) ∧
    true = decide ((↑reads : Int) ≤ (16 : Int) + (16 : Int) * (↑(cntS som y.val) : Int)) ∧ W = W ∧ A = A ∧ x = x ∧ ((4 : Nat) = (4 : Nat) ∧ cap = cap ∧ ∀ (i : Nat), i < (4 : Nat) → hsF
    i = hsF i) ∧ (len = len ∧ len = len ∧ ∀ (i : Nat), i < len → [Value.bool (alw i)] = [Value.bool (alw i)]) ∧ (len = len ∧ len = len ∧ ∀ (i : Nat), i < len → [Value.bool (som i)] =
    [Value.bool (som i)]) ∧ True))) ∧ ((0 : Nat) < x.pl.length → ∀ (cap_1 : Nat), x.pl.length ≤ cap_1 → (∃ (y : { j : Nat // j ≤ len }), (0 : Nat) = (0 : Nat) ∧ cap = cap ∧ a = a ∧ len
    = len ∧ scap = scap ∧ (0 : Nat) = (0 : Nat) ∧ len = len ∧ len = len ∧ (0 : Nat) = (0 : Nat) ∧ len = len ∧ len = len ∧ (↑reads : Int) = (↑reads : Int) ∧ (0 : Nat) = (0 : Nat) ∧
    x.pl.length = x.pl.length ∧ cap_1 = cap_1 ∧ a = a ∧ len = len ∧ scap = scap ∧ (↑len : Int) = (↑len : Int) ∧ W = W ∧ HO.old (E := XE) (H := colH) (XO.ar A) = HO.old (E := XE) (H :=
    colH) (XO.ar A) ∧ HO.obj (E := XE) (H := colH) [(1 : Nat)] x = HO.obj (E := XE) (H := colH) [(1 : Nat)] x ∧ (4 : Nat) = (4 : Nat) ∧ cap = cap ∧ hsF = hsF ∧ len = len ∧ len = len ∧
    ((fun (j : Nat) => [Value.bool (alw j)]) = fun (j : Nat) => [Value.bool (alw j)]) ∧ len = len ∧ len = len ∧ ((fun (j : Nat) => [Value.bool (som j)]) = fun (j : Nat) => [Value.bool
    (som j)]) ∧ x.pl.length = x.pl.length ∧ cap_1 = cap_1 ∧ (colRow x).f = (colRow x).f ∧ (↑y.val : Int) = (0 : Int) ∧ (↑(cntS som y.val) : Int) = (0 : Int) ∧ True) ∧ ∀ (y : { j : Nat
    // j ≤ len }) (ρ : Nat → Value), (decide ((↑y.val : Int) < (↑len : Int)) = true → ((0 : Int) ≤ (↑y.val : Int) ∧ (↑y.val : Int) < (↑len : Int) ∧ a.isSome = true) ∧ (∃ (x : Addr),
    addOpt a (↑y.val : Int).toNat = some x ∧ W.cell? x = some (Value.int IntKind.u8 (seenInt IntKind.u8 W (addOpt a (↑y.val : Int).toNat)))) ∧ ((0 : Int) ≤ (↑y.val : Int) ∧ (↑y.val :
    Int) < (↑len : Int)) ∧ addO true (0 : Nat) (↑y.val : Int).toNat < len ∧ (som (addO true (0 : Nat) (↑y.val : Int).toNat) = true → ((-9223372036854775808 : Int) ≤ (↑(cntS som y.val) :
    Int) + (1 : Int) ∧ (↑(cntS som y.val) : Int) + (1 : Int) ≤ (9223372036854775807 : Int)) ∧ (∃ (y_1 : { j : Nat // j ≤ x.pl.length }), (0 : Nat) = (0 : Nat) ∧ cap = cap ∧ a = a ∧ len
    = len ∧ scap = scap ∧ (0 : Nat) = (0 : Nat) ∧ len = len ∧ len = len ∧ (0 : Nat) = (0 : Nat) ∧ len = len ∧ len = len ∧ (↑reads : Int) = (↑reads : Int) ∧ (0 : Nat) = (0 : Nat) ∧
    x.pl.length = x.pl.length ∧ cap_1 = cap_1 ∧ (↑(cntS som y.val) : Int) + (1 : Int) = (↑(cntS som y.val) : Int) + (1 : Int) ∧ (↑y.val : Int) = (↑y.val : Int) ∧ seenInt IntKind.u8 W
    (addOpt a (↑y.val : Int).toNat) = seenInt IntKind.u8 W (addOpt a (↑y.val : Int).toNat) ∧ a = a ∧ len = len ∧ scap = scap ∧ (↑len : Int) = (↑len : Int) ∧ (↑y.val : Int) = (↑y.val :
    Int) ∧ (0 : Nat) = (0 : Nat) ∧ x.pl.length = x.pl.length ∧ cap_1 = cap_1 ∧ (↑x.pl.length : Int) = (↑x.pl.length : Int) ∧ W = W ∧ HO.old (E := XE) (H := colH) (XO.ar A) = HO.old (E
    := XE) (H := colH) (XO.ar A) ∧ HO.obj (E := XE) (H := colH) [(1 : Nat)] x = HO.obj (E := XE) (H := colH) [(1 : Nat)] x ∧ (4 : Nat) = (4 : Nat) ∧ cap = cap ∧ hsF = hsF ∧ len = len ∧
    len = len ∧ ((fun (j : Nat) => [Value.bool (alw j)]) = fun (j : Nat) => [Value.bool (alw j)]) ∧ len = len ∧ len = len ∧ ((fun (j : Nat) => [Value.bool (som j)]) = fun (j : Nat) =>
    [Value.bool (som j)]) ∧ x.pl.length = x.pl.length ∧ cap_1 = cap_1 ∧ (colRow x).f = (colRow x).f ∧ (↑y_1.val : Int) = (0 : Int) ∧ hasD x.pl (plD W a y.val) y_1.val = false ∧ True) ∧
    ∀ (y_1 : { j : Nat // j ≤ x.pl.length }) (ρ : Nat → Value), (decide ((↑y_1.val : Int) < (↑x.pl.length : Int)) = true → ((0 : Int) ≤ (↑y_1.val : Int) ∧ (↑y_1.val : Int) <
    (↑x.pl.length : Int)) ∧ addO true (0 : Nat) (↑y_1.val : Int).toNat < x.pl.length ∧ (hasD x.pl (plD W a y.val) y_1.val = true → ((-9223372036854775808 : Int) ≤ (↑y_1.val : Int) + (1
    : Int) ∧ (↑y_1.val : Int) + (1 : Int) ≤ (9223372036854775807 : Int)) ∧ ∃ (y' : { j : Nat // j ≤ x.pl.length }), x.pl.length - y'.val < x.pl.length - y_1.val ∧ (0 : Nat) = (0 : Nat)
    ∧ cap = cap ∧ a = a ∧ len = len ∧ scap = scap ∧ (0 : Nat) = (0 : Nat) ∧ len = len ∧ len = len ∧ (0 : Nat) = (0 : Nat) ∧ len = len ∧ len = len ∧ (↑reads : Int) = (↑reads : Int) ∧ (0
    : Nat) = (0 : Nat) ∧ x.pl.length = x.pl.length ∧ cap_1 = cap_1 ∧ (↑(cntS som y.val) : Int) + (1 : Int) = (↑(cntS som y.val) : Int) + (1 : Int) ∧ (↑y.val : Int) = (↑y.val : Int) ∧
    seenInt IntKind.u8 W (addOpt a (↑y.val : Int).toNat) = seenInt IntKind.u8 W (addOpt a (↑y.val : Int).toNat) ∧ a = a ∧ len = len ∧ scap = scap ∧ (↑len : Int) = (↑len : Int) ∧ (↑y.val
    : Int) = (↑y.val : Int) ∧ (0 : Nat) = (0 : Nat) ∧ x.pl.length = x.pl.length ∧ cap_1 = cap_1 ∧ (↑x.pl.length : Int) = (↑x.pl.length : Int) ∧ W = W ∧ HO.old (E := XE) (H := colH)
    (XO.ar A) = HO.old (E := XE) (H := colH) (XO.ar A) ∧ HO.obj (E := XE) (H := colH) [(1 : Nat)] x = HO.obj (E := XE) (H := colH) [(1 : Nat)] x ∧ (4 : Nat) = (4 : Nat) ∧ cap = cap ∧
    hsF = hsF ∧ len = len ∧ len = len ∧ ((fun (j : Nat) => [Value.bool (alw j)]) = fun (j : Nat) => [Value.bool (alw j)]) ∧ len = len ∧ len = len ∧ ((fun (j : Nat) => [Value.bool (som
    j)]) = fun (j : Nat) => [Value.bool (som j)]) ∧ x.pl.length = x.pl.length ∧ cap_1 = cap_1 ∧ (colRow x).f = (colRow x).f ∧ (↑y'.val : Int) = (↑y_1.val : Int) + (1 : Int) ∧ hasD x.pl
    (plD W a y.val) y'.val = true ∧ True) ∧ (hasD x.pl (plD W a y.val) y_1.val = false → ((cap = cap ∧ (∀ (i : Nat), i < (4 : Nat) → hsF i = hsF i) ∧ (0 : Int) ≤ seenInt IntKind.u8 W
    (addOpt a (↑y.val : Int).toNat) ∧ seenInt IntKind.u8 W (addOpt a (↑y.val : Int).toNat) ≤ (255 : Int)) ∧ W = W ∧ (4 : Nat) = (4 : Nat) ∧ cap = cap ∧ hsF = hsF ∧ (↑(x.pl.getD (addO
    true (0 : Nat) (↑y_1.val : Int).toNat) ((0 : Nat), (0 : Nat))).fst : Int) = (↑(x.pl.getD (addO true (0 : Nat) (↑y_1.val : Int).toNat) ((0 : Nat), (0 : Nat))).fst : Int) ∧
    (↑(x.pl.getD (addO true (0 : Nat) (↑y_1.val : Int).toNat) ((0 : Nat), (0 : Nat))).snd : Int) = (↑(x.pl.getD (addO true (0 : Nat) (↑y_1.val : Int).toNat) ((0 : Nat), (0 : Nat))).snd
    : Int) ∧ ((-9223372036854775808 : Int) ≤ (↑y_1.val : Int) + (1 : Int) ∧ (↑y_1.val : Int) + (1 : Int) ≤ (9223372036854775807 : Int)) ∧ ∃ (y' : { j : Nat // j ≤ x.pl.length }),
    x.pl.length - y'.val < x.pl.length - y_1.val ∧ (0 : Nat) = (0 : Nat) ∧ cap = cap ∧ a = a ∧ len = len ∧ scap = scap ∧ (0 : Nat) = (0 : Nat) ∧ len = len ∧ len = len ∧ (0 : Nat) = (0 :
    Nat) ∧ len = len ∧ len = len ∧ (↑reads : Int) = (↑reads : Int) ∧ (0 : Nat) = (0 : Nat) ∧ x.pl.length = x.pl.length ∧ cap_1 = cap_1 ∧ (↑(cntS som y.val) : Int) + (1 : Int) = (↑(cntS
    som y.val) : Int) + (1 : Int) ∧ (↑y.val : Int) = (↑y.val : Int) ∧ seenInt IntKind.u8 W (addOpt a (↑y.val : Int).toNat) = seenInt IntKind.u8 W (addOpt a (↑y.val : Int).toNat) ∧ a = a
    ∧ len = len ∧ scap = scap ∧ (↑len : Int) = (↑len : Int) ∧ (↑y.val : Int) = (↑y.val : Int) ∧ (0 : Nat) = (0 : Nat) ∧ x.pl.length = x.pl.length ∧ cap_1 = cap_1 ∧ (↑x.pl.length : Int)
    = (↑x.pl.length : Int) ∧ W = W ∧ HO.old (E := XE) (H := colH) (XO.ar A) = HO.old (E := XE) (H := colH) (XO.ar A) ∧ HO.obj (E := XE) (H := colH) [(1 : Nat)] x = HO.obj (E := XE) (H
    := colH) [(1 : Nat)] x ∧ (4 : Nat) = (4 : Nat) ∧ cap = cap ∧ hsF = hsF ∧ len = len ∧ len = len ∧ ((fun (j : Nat) => [Value.bool (alw j)]) = fun (j : Nat) => [Value.bool (alw j)]) ∧
    len = len ∧ len = len ∧ ((fun (j : Nat) => [Value.bool (som j)]) = fun (j : Nat) => [Value.bool (som j)]) ∧ x.pl.length = x.pl.length ∧ cap_1 = cap_1 ∧ (colRow x).f = (colRow x).f ∧
    (↑y'.val : Int) = (↑y_1.val : Int) + (1 : Int) ∧ hasD x.pl (plD W a y.val) y'.val = (true == ((↑(x.pl.getD (addO true (0 : Nat) (↑y_1.val : Int).toNat) ((0 : Nat), (0 : Nat))).fst :
    Int) == hsF (segG (seenInt IntKind.u8 W (addOpt a (↑y.val : Int).toNat) % (15 : Int)).toNat) && ((↑(x.pl.getD (addO true (0 : Nat) (↑y_1.val : Int).toNat) ((0 : Nat), (0 :
    Nat))).snd : Int) == seenInt IntKind.u8 W (addOpt a (↑y.val : Int).toNat) % (15 : Int) && true))) ∧ True) ∧ True)) ∧ (decide ((↑y_1.val : Int) < (↑x.pl.length : Int)) = false → ((0
    : Int) ≤ (↑y.val : Int) ∧ (↑y.val : Int) < (↑len : Int)) ∧ addO true (0 : Nat) (↑y.val : Int).toNat < len ∧ (alw (addO true (0 : Nat) (↑y.val : Int).toNat) = true → ((!hasD x.pl
    (plD W a y.val) y_1.val) = true → true = false ∧ W = W ∧ A = A ∧ x = x ∧ ((4 : Nat) = (4 : Nat) ∧ cap = cap ∧ ∀ (i : Nat), i < (4 : Nat) → hsF i = hsF i) ∧ (len = len ∧ len = len ∧
    ∀ (i : Nat), i < len → [Value.bool (alw i)] = [Value.bool (alw i)]) ∧ (len = len ∧ len = len ∧ ∀ (i : Nat), i < len → [Value.bool (som i)] = [Value.bool (som i)]) ∧ True) ∧ ((!hasD
    x.pl (plD W a y.val) y_1.val) = false → ((-9223372036854775808 : Int) ≤ (↑y.val : Int) + (1 : Int) ∧ (↑y.val : Int) + (1 : Int) ≤ (9223372036854775807 : Int)) ∧ ∃ (y' : { j : Nat //
    j ≤ len }), len - y'.val < len - y.val ∧ (0 : Nat) = (0 : Nat) ∧ cap = cap ∧ a = a ∧ len = len ∧ scap = scap ∧ (0 : Nat) = (0 : Nat) ∧ len = len ∧ len = len ∧ (0 : Nat) = (0 : Nat)
    ∧ len = len ∧ len = len ∧ (↑reads : Int) = (↑reads : Int) ∧ (0 : Nat) = (0 : Nat) ∧ x.pl.length = x.pl.length ∧ cap_1 = cap_1 ∧ a = a ∧ len = len ∧ scap = scap ∧ (↑len : Int) =
    (↑len : Int) ∧ W = W ∧ HO.old (E := XE) (H := colH) (XO.ar A) = HO.old (E := XE) (H := colH) (XO.ar A) ∧ HO.obj (E := XE) (H := colH) [(1 : Nat)] x = HO.obj (E := XE) (H := colH)
    [(1 : Nat)] x ∧ (4 : Nat) = (4 : Nat) ∧ cap = cap ∧ hsF = hsF ∧ len = len ∧ len = len ∧ ((fun (j : Nat) => [Value.bool (alw j)]) = fun (j : Nat) => [Value.bool (alw j)]) ∧ len = len
    ∧ len = len ∧ ((fun (j : Nat) => [Value.bool (som j)]) = fun (j : Nat) => [Value.bool (som j)]) ∧ x.pl.length = x.pl.length ∧ cap_1 = cap_1 ∧ (colRow x).f = (colRow x).f ∧ (↑y'.val
    : Int) = (↑y.val : Int) + (1 : Int) ∧ (↑(cntS som y'.val) : Int) = (↑(cntS som y.val) : Int) + (1 : Int) ∧ True)) ∧ (alw (addO true (0 : Nat) (↑y.val : Int).toNat) = false →
    ((-9223372036854775808 : Int) ≤ (↑y.val : Int) + (1 : Int) ∧ (↑y.val : Int) + (1 : Int) ≤ (9223372036854775807 : Int)) ∧ ∃ (y' : { j : Nat // j ≤ len }), len - y'.val < len - y.val
    ∧ (0 : Nat) = (0 : Nat) ∧ cap = cap ∧ a = a ∧ len = len ∧ scap = scap ∧ (0 : Nat) = (0 : Nat) ∧ len = len ∧ len = len ∧ (0 : Nat) = (0 : Nat) ∧ len = len ∧ len = len ∧ (↑reads :
    Int) = (↑reads : Int) ∧ (0 : Nat) = (0 : Nat) ∧ x.pl.length = x.pl.length ∧ cap_1 = cap_1 ∧ a = a ∧ len = len ∧ scap = scap ∧ (↑len : Int) = (↑len : Int) ∧ W = W ∧ HO.old (E := XE)
    (H := colH) (XO.ar A) = HO.old (E := XE) (H := colH) (XO.ar A) ∧ HO.obj (E := XE) (H := colH) [(1 : Nat)] x = HO.obj (E := XE) (H := colH) [(1 : Nat)] x ∧ (4 : Nat) = (4 : Nat) ∧
    cap = cap ∧ hsF = hsF ∧ len = len ∧ len = len ∧ ((fun (j : Nat) => [Value.bool (alw j)]) = fun (j : Nat) => [Value.bool (alw j)]) ∧ len = len ∧ len = len ∧ ((fun (j : Nat) =>
    [Value.bool (som j)]) = fun (j : Nat) => [Value.bool (som j)]) ∧ x.pl.length = x.pl.length ∧ cap_1 = cap_1 ∧ (colRow x).f = (colRow x).f ∧ (↑y'.val : Int) = (↑y.val : Int) + (1 :
    Int) ∧ (↑(cntS som y'.val) : Int) = (↑(cntS som y.val) : Int) + (1 : Int) ∧ True))) ∧ (som (addO true (0 : Nat) (↑y.val : Int).toNat) = false → (∃ (y_1 : { j : Nat // j ≤
    x.pl.length }), (0 : Nat) = (0 : Nat) ∧ cap = cap ∧ a = a ∧ len = len ∧ scap = scap ∧ (0 : Nat) = (0 : Nat) ∧ len = len ∧ len = len ∧ (0 : Nat) = (0 : Nat) ∧ len = len ∧ len = len ∧
    (↑reads : Int) = (↑reads : Int) ∧ (0 : Nat) = (0 : Nat) ∧ x.pl.length = x.pl.length ∧ cap_1 = cap_1 ∧ (↑(cntS som y.val) : Int) = (↑(cntS som y.val) : Int) ∧ (↑y.val : Int) =
    (↑y.val : Int) ∧ seenInt IntKind.u8 W (addOpt a (↑y.val : Int).toNat) = seenInt IntKind.u8 W (addOpt a (↑y.val : Int).toNat) ∧ a = a ∧ len = len ∧ scap = scap ∧ (↑len : Int) = (↑len
    : Int) ∧ (↑y.val : Int) = (↑y.val : Int) ∧ (0 : Nat) = (0 : Nat) ∧ x.pl.length = x.pl.length ∧ cap_1 = cap_1 ∧ (↑x.pl.length : Int) = (↑x.pl.length : Int) ∧ W = W ∧ HO.old (E := XE)
    (H := colH) (XO.ar A) = HO.old (E := XE) (H := colH) (XO.ar A) ∧ HO.obj (E := XE) (H := colH) [(1 : Nat)] x = HO.obj (E := XE) (H := colH) [(1 : Nat)] x ∧ (4 : Nat) = (4 : Nat) ∧
    cap = cap ∧ hsF = hsF ∧ len = len ∧ len = len ∧ ((fun (j : Nat) => [Value.bool (alw j)]) = fun (j : Nat) => [Value.bool (alw j)]) ∧ len = len ∧ len = len ∧ ((fun (j : Nat) =>
    [Value.bool (som j)]) = fun (j : Nat) => [Value.bool (som j)]) ∧ x.pl.length = x.pl.length ∧ cap_1 = cap_1 ∧ (colRow x).f = (colRow x).f ∧ (↑y_1.val : Int) = (0 : Int) ∧ hasD x.pl
    (plD W a y.val) y_1.val = false ∧ True) ∧ ∀ (y_1 : { j : Nat // j ≤ x.pl.length }) (ρ : Nat → Value), (decide ((↑y_1.val : Int) < (↑x.pl.length : Int)) = true → ((0 : Int) ≤
    (↑y_1.val : Int) ∧ (↑y_1.val : Int) < (↑x.pl.length : Int)) ∧ addO true (0 : Nat) (↑y_1.val : Int).toNat < x.pl.length ∧ (hasD x.pl (plD W a y.val) y_1.val = true →
    ((-9223372036854775808 : Int) ≤ (↑y_1.val : Int) + (1 : Int) ∧ (↑y_1.val : Int) + (1 : Int) ≤ (9223372036854775807 : Int)) ∧ ∃ (y' : { j : Nat // j ≤ x.pl.length }), x.pl.length -
    y'.val < x.pl.length - y_1.val ∧ (0 : Nat) = (0 : Nat) ∧ cap = cap ∧ a = a ∧ len = len ∧ scap = scap ∧ (0 : Nat) = (0 : Nat) ∧ len = len ∧ len = len ∧ (0 : Nat) = (0 : Nat) ∧ len =
    len ∧ len = len ∧ (↑reads : Int) = (↑reads : Int) ∧ (0 : Nat) = (0 : Nat) ∧ x.pl.length = x.pl.length ∧ cap_1 = cap_1 ∧ (↑(cntS som y.val) : Int) = (↑(cntS som y.val) : Int) ∧
    (↑y.val : Int) = (↑y.val : Int) ∧ seenInt IntKind.u8 W (addOpt a (↑y.val : Int).toNat) = seenInt IntKind.u8 W (addOpt a (↑y.val : Int).toNat) ∧ a = a ∧ len = len ∧ scap = scap ∧
    (↑len : Int) = (↑len : Int) ∧ (↑y.val : Int) = (↑y.val : Int) ∧ (0 : Nat) = (0 : Nat) ∧ x.pl.length = x.pl.length ∧ cap_1 = cap_1 ∧ (↑x.pl.length : Int) = (↑x.pl.length : Int) ∧ W =
    W ∧ HO.old (E := XE) (H := colH) (XO.ar A) = HO.old (E := XE) (H := colH) (XO.ar A) ∧ HO.obj (E := XE) (H := colH) [(1 : Nat)] x = HO.obj (E := XE) (H := colH) [(1 : Nat)] x ∧ (4 :
    Nat) = (4 : Nat) ∧ cap = cap ∧ hsF = hsF ∧ len = len ∧ len = len ∧ ((fun (j : Nat) => [Value.bool (alw j)]) = fun (j : Nat) => [Value.bool (alw j)]) ∧ len = len ∧ len = len ∧ ((fun
    (j : Nat) => [Value.bool (som j)]) = fun (j : Nat) => [Value.bool (som j)]) ∧ x.pl.length = x.pl.length ∧ cap_1 = cap_1 ∧ (colRow x).f = (colRow x).f ∧ (↑y'.val : Int) = (↑y_1.val :
    Int) + (1 : Int) ∧ hasD x.pl (plD W a y.val) y'.val = true ∧ True) ∧ (hasD x.pl (plD W a y.val) y_1.val = false → ((cap = cap ∧ (∀ (i : Nat), i < (4 : Nat) → hsF i = hsF i) ∧ (0 :
    Int) ≤ seenInt IntKind.u8 W (addOpt a (↑y.val : Int).toNat) ∧ seenInt IntKind.u8 W (addOpt a (↑y.val : Int).toNat) ≤ (255 : Int)) ∧ W = W ∧ (4 : Nat) = (4 : Nat) ∧ cap = cap ∧ hsF =
    hsF ∧ (↑(x.pl.getD (addO true (0 : Nat) (↑y_1.val : Int).toNat) ((0 : Nat), (0 : Nat))).fst : Int) = (↑(x.pl.getD (addO true (0 : Nat) (↑y_1.val : Int).toNat) ((0 : Nat), (0 :
    Nat))).fst : Int) ∧ (↑(x.pl.getD (addO true (0 : Nat) (↑y_1.val : Int).toNat) ((0 : Nat), (0 : Nat))).snd : Int) = (↑(x.pl.getD (addO true (0 : Nat) (↑y_1.val : Int).toNat) ((0 :
    Nat), (0 : Nat))).snd : Int) ∧ ((-9223372036854775808 : Int) ≤ (↑y_1.val : Int) + (1 : Int) ∧ (↑y_1.val : Int) + (1 : Int) ≤ (9223372036854775807 : Int)) ∧ ∃ (y' : { j : Nat // j ≤
    x.pl.length }), x.pl.length - y'.val < x.pl.length - y_1.val ∧ (0 : Nat) = (0 : Nat) ∧ cap = cap ∧ a = a ∧ len = len ∧ scap = scap ∧ (0 : Nat) = (0 : Nat) ∧ len = len ∧ len = len ∧
    (0 : Nat) = (0 : Nat) ∧ len = len ∧ len = len ∧ (↑reads : Int) = (↑reads : Int) ∧ (0 : Nat) = (0 : Nat) ∧ x.pl.length = x.pl.length ∧ cap_1 = cap_1 ∧ (↑(cntS som y.val) : Int) =
    (↑(cntS som y.val) : Int) ∧ (↑y.val : Int) = (↑y.val : Int) ∧ seenInt IntKind.u8 W (addOpt a (↑y.val : Int).toNat) = seenInt IntKind.u8 W (addOpt a (↑y.val : Int).toNat) ∧ a = a ∧
    len = len ∧ scap = scap ∧ (↑len : Int) = (↑len : Int) ∧ (↑y.val : Int) = (↑y.val : Int) ∧ (0 : Nat) = (0 : Nat) ∧ x.pl.length = x.pl.length ∧ cap_1 = cap_1 ∧ (↑x.pl.length : Int) =
    (↑x.pl.length : Int) ∧ W = W ∧ HO.old (E := XE) (H := colH) (XO.ar A) = HO.old (E := XE) (H := colH) (XO.ar A) ∧ HO.obj (E := XE) (H := colH) [(1 : Nat)] x = HO.obj (E := XE) (H :=
    colH) [(1 : Nat)] x ∧ (4 : Nat) = (4 : Nat) ∧ cap = cap ∧ hsF = hsF ∧ len = len ∧ len = len ∧ ((fun (j : Nat) => [Value.bool (alw j)]) = fun (j : Nat) => [Value.bool (alw j)]) ∧ len
    = len ∧ len = len ∧ ((fun (j : Nat) => [Value.bool (som j)]) = fun (j : Nat) => [Value.bool (som j)]) ∧ x.pl.length = x.pl.length ∧ cap_1 = cap_1 ∧ (colRow x).f = (colRow x).f ∧
    (↑y'.val : Int) = (↑y_1.val : Int) + (1 : Int) ∧ hasD x.pl (plD W a y.val) y'.val = (true == ((↑(x.pl.getD (addO true (0 : Nat) (↑y_1.val : Int).toNat) ((0 : Nat), (0 : Nat))).fst :
    Int) == hsF (segG (seenInt IntKind.u8 W (addOpt a (↑y.val : Int).toNat) % (15 : Int)).toNat) && ((↑(x.pl.getD (addO true (0 : Nat) (↑y_1.val : Int).toNat) ((0 : Nat), (0 :
    Nat))).snd : Int) == seenInt IntKind.u8 W (addOpt a (↑y.val : Int).toNat) % (15 : Int) && true))) ∧ True) ∧ True)) ∧ (decide ((↑y_1.val : Int) < (↑x.pl.length : Int)) = false → ((0
    : Int) ≤ (↑y.val : Int) ∧ (↑y.val : Int) < (↑len : Int)) ∧ addO true (0 : Nat) (↑y.val : Int).toNat < len ∧ (alw (addO true (0 : Nat) (↑y.val : Int).toNat) = true → ((!hasD x.pl
    (plD W a y.val) y_1.val) = true → true = false ∧ W = W ∧ A = A ∧ x = x ∧ ((4 : Nat) = (4 : Nat) ∧ cap = cap ∧ ∀ (i : Nat), i < (4 : Nat) → hsF i = hsF i) ∧ (len = len ∧ len = len ∧
    ∀ (i : Nat), i < len → [Value.bool (alw i)] = [Value.bool (alw i)]) ∧ (len = len ∧ len = len ∧ ∀ (i : Nat), i < len → [Value.bool (som i)] = [Value.bool (som i)]) ∧ True) ∧ ((!hasD
    x.pl (plD W a y.val) y_1.val) = false → ((-9223372036854775808 : Int) ≤ (↑y.val : Int) + (1 : Int) ∧ (↑y.val : Int) + (1 : Int) ≤ (9223372036854775807 : Int)) ∧ ∃ (y' : { j : Nat //
    j ≤ len }), len - y'.val < len - y.val ∧ (0 : Nat) = (0 : Nat) ∧ cap = cap ∧ a = a ∧ len = len ∧ scap = scap ∧ (0 : Nat) = (0 : Nat) ∧ len = len ∧ len = len ∧ (0 : Nat) = (0 : Nat)
    ∧ len = len ∧ len = len ∧ (↑reads : Int) = (↑reads : Int) ∧ (0 : Nat) = (0 : Nat) ∧ x.pl.length = x.pl.length ∧ cap_1 = cap_1 ∧ a = a ∧ len = len ∧ scap = scap ∧ (↑len : Int) =
    (↑len : Int) ∧ W = W ∧ HO.old (E := XE) (H := colH) (XO.ar A) = HO.old (E := XE) (H := colH) (XO.ar A) ∧ HO.obj (E := XE) (H := colH) [(1 : Nat)] x = HO.obj (E := XE) (H := colH)
    [(1 : Nat)] x ∧ (4 : Nat) = (4 : Nat) ∧ cap = cap ∧ hsF = hsF ∧ len = len ∧ len = len ∧ ((fun (j : Nat) => [Value.bool (alw j)]) = fun (j : Nat) => [Value.bool (alw j)]) ∧ len = len
    ∧ len = len ∧ ((fun (j : Nat) => [Value.bool (som j)]) = fun (j : Nat) => [Value.bool (som j)]) ∧ x.pl.length = x.pl.length ∧ cap_1 = cap_1 ∧ (colRow x).f = (colRow x).f ∧ (↑y'.val
    : Int) = (↑y.val : Int) + (1 : Int) ∧ (↑(cntS som y'.val) : Int) = (↑(cntS som y.val) : Int) ∧ True)) ∧ (alw (addO true (0 : Nat) (↑y.val : Int).toNat) = false →
    ((-9223372036854775808 : Int) ≤ (↑y.val : Int) + (1 : Int) ∧ (↑y.val : Int) + (1 : Int) ≤ (9223372036854775807 : Int)) ∧ ∃ (y' : { j : Nat // j ≤ len }), len - y'.val < len - y.val
    ∧ (0 : Nat) = (0 : Nat) ∧ cap = cap ∧ a = a ∧ len = len ∧ scap = scap ∧ (0 : Nat) = (0 : Nat) ∧ len = len ∧ len = len ∧ (0 : Nat) = (0 : Nat) ∧ len = len ∧ len = len ∧ (↑reads :
    Int) = (↑reads : Int) ∧ (0 : Nat) = (0 : Nat) ∧ x.pl.length = x.pl.length ∧ cap_1 = cap_1 ∧ a = a ∧ len = len ∧ scap = scap ∧ (↑len : Int) = (↑len : Int) ∧ W = W ∧ HO.old (E := XE)
    (H := colH) (XO.ar A) = HO.old (E := XE) (H := colH) (XO.ar A) ∧ HO.obj (E := XE) (H := colH) [(1 : Nat)] x = HO.obj (E := XE) (H := colH) [(1 : Nat)] x ∧ (4 : Nat) = (4 : Nat) ∧
    cap = cap ∧ hsF = hsF ∧ len = len ∧ len = len ∧ ((fun (j : Nat) => [Value.bool (alw j)]) = fun (j : Nat) => [Value.bool (alw j)]) ∧ len = len ∧ len = len ∧ ((fun (j : Nat) =>
    [Value.bool (som j)]) = fun (j : Nat) => [Value.bool (som j)]) ∧ x.pl.length = x.pl.length ∧ cap_1 = cap_1 ∧ (colRow x).f = (colRow x).f ∧ (↑y'.val : Int) = (↑y.val : Int) + (1 :
    Int) ∧ (↑(cntS som y'.val) : Int) = (↑(cntS som y.val) : Int) ∧ True)))) ∧ (decide ((↑y.val : Int) < (↑len : Int)) = false → (∃ (y_1 : { j : Nat // j ≤ x.pl.length }), (0 : Nat) =
    (0 : Nat) ∧ cap = cap ∧ a = a ∧ len = len ∧ scap = scap ∧ (0 : Nat) = (0 : Nat) ∧ len = len ∧ len = len ∧ (0 : Nat) = (0 : Nat) ∧ len = len ∧ len = len ∧ (↑reads : Int) = (↑reads :
    Int) ∧ (0 : Nat) = (0 : Nat) ∧ x.pl.length = x.pl.length ∧ cap_1 = cap_1 ∧ (↑(cntS som y.val) : Int) = (↑(cntS som y.val) : Int) ∧ (0 : Nat) = (0 : Nat) ∧ x.pl.length = x.pl.length
    ∧ cap_1 = cap_1 ∧ (↑x.pl.length : Int) = (↑x.pl.length : Int) ∧ W = W ∧ HO.old (E := XE) (H := colH) (XO.ar A) = HO.old (E := XE) (H := colH) (XO.ar A) ∧ HO.obj (E := XE) (H :=
    colH) [(1 : Nat)] x = HO.obj (E := XE) (H := colH) [(1 : Nat)] x ∧ (4 : Nat) = (4 : Nat) ∧ cap = cap ∧ hsF = hsF ∧ len = len ∧ len = len ∧ ((fun (j : Nat) => [Value.bool (alw j)]) =
    fun (j : Nat) => [Value.bool (alw j)]) ∧ len = len ∧ len = len ∧ ((fun (j : Nat) => [Value.bool (som j)]) = fun (j : Nat) => [Value.bool (som j)]) ∧ x.pl.length = x.pl.length ∧
    cap_1 = cap_1 ∧ (colRow x).f = (colRow x).f ∧ (↑y_1.val : Int) = (0 : Int) ∧ True) ∧ ∀ (y_1 : { j : Nat // j ≤ x.pl.length }) (ρ : Nat → Value), (decide ((↑y_1.val : Int) <
    (↑x.pl.length : Int)) = true → ((0 : Int) ≤ (↑y_1.val : Int) ∧ (↑y_1.val : Int) < (↑x.pl.length : Int)) ∧ addO true (0 : Nat) (↑y_1.val : Int).toNat < x.pl.length ∧ (∃ (y_2 : { j :
    Nat // j ≤ len }), (0 : Nat) = (0 : Nat) ∧ cap = cap ∧ a = a ∧ len = len ∧ scap = scap ∧ (0 : Nat) = (0 : Nat) ∧ len = len ∧ len = len ∧ (0 : Nat) = (0 : Nat) ∧ len = len ∧ len =
    len ∧ (↑reads : Int) = (↑reads : Int) ∧ (0 : Nat) = (0 : Nat) ∧ x.pl.length = x.pl.length ∧ cap_1 = cap_1 ∧ (↑(cntS som y.val) : Int) = (↑(cntS som y.val) : Int) ∧ (↑y_1.val : Int)
    = (↑y_1.val : Int) ∧ (0 : Nat) = (0 : Nat) ∧ x.pl.length = x.pl.length ∧ cap_1 = cap_1 ∧ (↑x.pl.length : Int) = (↑x.pl.length : Int) ∧ (↑y_1.val : Int) = (↑y_1.val : Int) ∧ a = a ∧
    len = len ∧ scap = scap ∧ (↑len : Int) = (↑len : Int) ∧ W = W ∧ HO.old (E := XE) (H := colH) (XO.ar A) = HO.old (E := XE) (H := colH) (XO.ar A) ∧ HO.obj (E := XE) (H := colH) [(1 :
    Nat)] x = HO.obj (E := XE) (H := colH) [(1 : Nat)] x ∧ (4 : Nat) = (4 : Nat) ∧ cap = cap ∧ hsF = hsF ∧ len = len ∧ len = len ∧ ((fun (j : Nat) => [Value.bool (alw j)]) = fun (j :
    Nat) => [Value.bool (alw j)]) ∧ len = len ∧ len = len ∧ ((fun (j : Nat) => [Value.bool (som j)]) = fun (j : Nat) => [Value.bool (som j)]) ∧ x.pl.length = x.pl.length ∧ cap_1 = cap_1
    ∧ (colRow x).f = (colRow x).f ∧ (↑(x.pl.getD (addO true (0 : Nat) (↑y_1.val : Int).toNat) ((0 : Nat), (0 : Nat))).fst : Int) = (↑(x.pl.getD (addO true (0 : Nat) (↑y_1.val :
    Int).toNat) ((0 : Nat), (0 : Nat))).fst : Int) ∧ (↑(x.pl.getD (addO true (0 : Nat) (↑y_1.val : Int).toNat) ((0 : Nat), (0 : Nat))).snd : Int) = (↑(x.pl.getD (addO true (0 : Nat)
    (↑y_1.val : Int).toNat) ((0 : Nat), (0 : Nat))).snd : Int) ∧ (↑y_2.val : Int) = (0 : Int) ∧ wasD W a som (x.pl.getD y_1.val ((0 : Nat), (0 : Nat))) y_2.val = false ∧ True) ∧ ∀ (y_2
    : { j : Nat // j ≤ len }) (ρ : Nat → Value), (decide ((↑y_2.val : Int) < (↑len : Int)) = true → ((0 : Int) ≤ (↑y_2.val : Int) ∧ (↑y_2.val : Int) < (↑len : Int) ∧ a.isSome = true) ∧
    (∃ (x : Addr), addOpt a (↑y_2.val : Int).toNat = some x ∧ W.cell? x = some (Value.int IntKind.u8 (seenInt IntKind.u8 W (addOpt a (↑y_2.val : Int).toNat)))) ∧ (wasD W a som
    (x.pl.getD y_1.val ((0 : Nat), (0 : Nat))) y_2.val = true → ((-9223372036854775808 : Int) ≤ (↑y_2.val : Int) + (1 : Int) ∧ (↑y_2.val : Int) + (1 : Int) ≤ (9223372036854775807 :
    Int)) ∧ ∃ (y' : { j : Nat // j ≤ len }), len - y'.val < len - y_2.val ∧ (0 : Nat) = (0 : Nat) ∧ cap = cap ∧ a = a ∧ len = len ∧ scap = scap ∧ (0 : Nat) = (0 : Nat) ∧ len = len ∧ len
    = len ∧ (0 : Nat) = (0 : Nat) ∧ len = len ∧ len = len ∧ (↑reads : Int) = (↑reads : Int) ∧ (0 : Nat) = (0 : Nat) ∧ x.pl.length = x.pl.length ∧ cap_1 = cap_1 ∧ (↑(cntS som y.val) :
    Int) = (↑(cntS som y.val) : Int) ∧ (↑y_1.val : Int) = (↑y_1.val : Int) ∧ (0 : Nat) = (0 : Nat) ∧ x.pl.length = x.pl.length ∧ cap_1 = cap_1 ∧ (↑x.pl.length : Int) = (↑x.pl.length :
    Int) ∧ (↑y_1.val : Int) = (↑y_1.val : Int) ∧ a = a ∧ len = len ∧ scap = scap ∧ (↑len : Int) = (↑len : Int) ∧ W = W ∧ HO.old (E := XE) (H := colH) (XO.ar A) = HO.old (E := XE) (H :=
    colH) (XO.ar A) ∧ HO.obj (E := XE) (H := colH) [(1 : Nat)] x = HO.obj (E := XE) (H := colH) [(1 : Nat)] x ∧ (4 : Nat) = (4 : Nat) ∧ cap = cap ∧ hsF = hsF ∧ len = len ∧ len = len ∧
    ((fun (j : Nat) => [Value.bool (alw j)]) = fun (j : Nat) => [Value.bool (alw j)]) ∧ len = len ∧ len = len ∧ ((fun (j : Nat) => [Value.bool (som j)]) = fun (j : Nat) => [Value.bool
    (som j)]) ∧ x.pl.length = x.pl.length ∧ cap_1 = cap_1 ∧ (colRow x).f = (colRow x).f ∧ (↑(x.pl.getD (addO true (0 : Nat) (↑y_1.val : Int).toNat) ((0 : Nat), (0 : Nat))).fst : Int) =
    (↑(x.pl.getD (addO true (0 : Nat) (↑y_1.val : Int).toNat) ((0 : Nat), (0 : Nat))).fst : Int) ∧ (↑(x.pl.getD (addO true (0 : Nat) (↑y_1.val : Int).toNat) ((0 : Nat), (0 : Nat))).snd
    : Int) = (↑(x.pl.getD (addO true (0 : Nat) (↑y_1.val : Int).toNat) ((0 : Nat), (0 : Nat))).snd : Int) ∧ (↑y'.val : Int) = (↑y_2.val : Int) + (1 : Int) ∧ wasD W a som (x.pl.getD
    y_1.val ((0 : Nat), (0 : Nat))) y'.val = true ∧ True) ∧ (wasD W a som (x.pl.getD y_1.val ((0 : Nat), (0 : Nat))) y_2.val = false → ((0 : Int) ≤ (↑y_2.val : Int) ∧ (↑y_2.val : Int) <
    (↑len : Int)) ∧ addO true (0 : Nat) (↑y_2.val : Int).toNat < len ∧ (som (addO true (0 : Nat) (↑y_2.val : Int).toNat) = true → ((cap = cap ∧ (∀ (i : Nat), i < (4 : Nat) → hsF i = hsF
    i) ∧ (0 : Int) ≤ seenInt IntKind.u8 W (addOpt a (↑y_2.val : Int).toNat) ∧ seenInt IntKind.u8 W (addOpt a (↑y_2.val : Int).toNat) ≤ (255 : Int)) ∧ W = W ∧ (4 : Nat) = (4 : Nat) ∧ cap
    = cap ∧ hsF = hsF ∧ len = len ∧ len = len ∧ ((fun (j : Nat) => [Value.bool (som j)]) = fun (j : Nat) => [Value.bool (som j)]) ∧ (↑(x.pl.getD (addO true (0 : Nat) (↑y_1.val :
    Int).toNat) ((0 : Nat), (0 : Nat))).fst : Int) = (↑(x.pl.getD (addO true (0 : Nat) (↑y_1.val : Int).toNat) ((0 : Nat), (0 : Nat))).fst : Int) ∧ (↑(x.pl.getD (addO true (0 : Nat)
    (↑y_1.val : Int).toNat) ((0 : Nat), (0 : Nat))).snd : Int) = (↑(x.pl.getD (addO true (0 : Nat) (↑y_1.val : Int).toNat) ((0 : Nat), (0 : Nat))).snd : Int) ∧ ((-9223372036854775808 :
    Int) ≤ (↑y_2.val : Int) + (1 : Int) ∧ (↑y_2.val : Int) + (1 : Int) ≤ (9223372036854775807 : Int)) ∧ ∃ (y' : { j : Nat // j ≤ len }), len - y'.val < len - y_2.val ∧ (0 : Nat) = (0 :
    Nat) ∧ cap = cap ∧ a = a ∧ len = len ∧ scap = scap ∧ (0 : Nat) = (0 : Nat) ∧ len = len ∧ len = len ∧ (0 : Nat) = (0 : Nat) ∧ len = len ∧ len = len ∧ (↑reads : Int) = (↑reads : Int)
    ∧ (0 : Nat) = (0 : Nat) ∧ x.pl.length = x.pl.length ∧ cap_1 = cap_1 ∧ (↑(cntS som y.val) : Int) = (↑(cntS som y.val) : Int) ∧ (↑y_1.val : Int) = (↑y_1.val : Int) ∧ (0 : Nat) = (0 :
    Nat) ∧ x.pl.length = x.pl.length ∧ cap_1 = cap_1 ∧ (↑x.pl.length : Int) = (↑x.pl.length : Int) ∧ (↑y_1.val : Int) = (↑y_1.val : Int) ∧ a = a ∧ len = len ∧ scap = scap ∧ (↑len : Int)
    = (↑len : Int) ∧ W = W ∧ HO.old (E := XE) (H := colH) (XO.ar A) = HO.old (E := XE) (H := colH) (XO.ar A) ∧ HO.obj (E := XE) (H := colH) [(1 : Nat)] x = HO.obj (E := XE) (H := colH)
    [(1 : Nat)] x ∧ (4 : Nat) = (4 : Nat) ∧ cap = cap ∧ hsF = hsF ∧ len = len ∧ len = len ∧ ((fun (j : Nat) => [Value.bool (alw j)]) = fun (j : Nat) => [Value.bool (alw j)]) ∧ len = len
    ∧ len = len ∧ ((fun (j : Nat) => [Value.bool (som j)]) = fun (j : Nat) => [Value.bool (som j)]) ∧ x.pl.length = x.pl.length ∧ cap_1 = cap_1 ∧ (colRow x).f = (colRow x).f ∧
    (↑(x.pl.getD (addO true (0 : Nat) (↑y_1.val : Int).toNat) ((0 : Nat), (0 : Nat))).fst : Int) = (↑(x.pl.getD (addO true (0 : Nat) (↑y_1.val : Int).toNat) ((0 : Nat), (0 : Nat))).fst
    : Int) ∧ (↑(x.pl.getD (addO true (0 : Nat) (↑y_1.val : Int).toNat) ((0 : Nat), (0 : Nat))).snd : Int) = (↑(x.pl.getD (addO true (0 : Nat) (↑y_1.val : Int).toNat) ((0 : Nat), (0 :
    Nat))).snd : Int) ∧ (↑y'.val : Int) = (↑y_2.val : Int) + (1 : Int) ∧ wasD W a som (x.pl.getD y_1.val ((0 : Nat), (0 : Nat))) y'.val = (true == ((↑(x.pl.getD (addO true (0 : Nat)
    (↑y_1.val : Int).toNat) ((0 : Nat), (0 : Nat))).fst : Int) == hsF (segG (seenInt IntKind.u8 W (addOpt a (↑y_2.val : Int).toNat) % (15 : Int)).toNat) && ((↑(x.pl.getD (addO true (0 :
    Nat) (↑y_1.val : Int).toNat) ((0 : Nat), (0 : Nat))).snd : Int) == seenInt IntKind.u8 W (addOpt a (↑y_2.val : Int).toNat) % (15 : Int) && true))) ∧ True) ∧ True) ∧ (som (addO true
    (0 : Nat) (↑y_2.val : Int).toNat) = false → ((-9223372036854775808 : Int) ≤ (↑y_2.val : Int) + (1 : Int) ∧ (↑y_2.val : Int) + (1 : Int) ≤ (9223372036854775807 : Int)) ∧ ∃ (y' : { j
    : Nat // j ≤ len }), len - y'.val < len - y_2.val ∧ (0 : Nat) = (0 : Nat) ∧ cap = cap ∧ a = a ∧ len = len ∧ scap = scap ∧ (0 : Nat) = (0 : Nat) ∧ len = len ∧ len = len ∧ (0 : Nat) =
    (0 : Nat) ∧ len = len ∧ len = len ∧ (↑reads : Int) = (↑reads : Int) ∧ (0 : Nat) = (0 : Nat) ∧ x.pl.length = x.pl.length ∧ cap_1 = cap_1 ∧ (↑(cntS som y.val) : Int) = (↑(cntS som
    y.val) : Int) ∧ (↑y_1.val : Int) = (↑y_1.val : Int) ∧ (0 : Nat) = (0 : Nat) ∧ x.pl.length = x.pl.length ∧ cap_1 = cap_1 ∧ (↑x.pl.length : Int) = (↑x.pl.length : Int) ∧ (↑y_1.val :
    Int) = (↑y_1.val : Int) ∧ a = a ∧ len = len ∧ scap = scap ∧ (↑len : Int) = (↑len : Int) ∧ W = W ∧ HO.old (E := XE) (H := colH) (XO.ar A) = HO.old (E := XE) (H := colH) (XO.ar A) ∧
    HO.obj (E := XE) (H := colH) [(1 : Nat)] x = HO.obj (E := XE) (H := colH) [(1 : Nat)] x ∧ (4 : Nat) = (4 : Nat) ∧ cap = cap ∧ hsF = hsF ∧ len = len ∧ len = len ∧ ((fun (j : Nat) =>
    [Value.bool (alw j)]) = fun (j : Nat) => [Value.bool (alw j)]) ∧ len = len ∧ len = len ∧ ((fun (j : Nat) => [Value.bool (som j)]) = fun (j : Nat) => [Value.bool (som j)]) ∧
    x.pl.length = x.pl.length ∧ cap_1 = cap_1 ∧ (colRow x).f = (colRow x).f ∧ (↑(x.pl.getD (addO true (0 : Nat) (↑y_1.val : Int).toNat) ((0 : Nat), (0 : Nat))).fst : Int) = (↑(x.pl.getD
    (addO true (0 : Nat) (↑y_1.val : Int).toNat) ((0 : Nat), (0 : Nat))).fst : Int) ∧ (↑(x.pl.getD (addO true (0 : Nat) (↑y_1.val : Int).toNat) ((0 : Nat), (0 : Nat))).snd : Int) =
    (↑(x.pl.getD (addO true (0 : Nat) (↑y_1.val : Int).toNat) ((0 : Nat), (0 : Nat))).snd : Int) ∧ (↑y'.val : Int) = (↑y_2.val : Int) + (1 : Int) ∧ wasD W a som (x.pl.getD y_1.val ((0 :
    Nat), (0 : Nat))) y'.val = false ∧ True))) ∧ (decide ((↑y_2.val : Int) < (↑len : Int)) = false → ((!wasD W a som (x.pl.getD y_1.val ((0 : Nat), (0 : Nat))) y_2.val) = true → true =
    false ∧ W = W ∧ A = A ∧ x = x ∧ ((4 : Nat) = (4 : Nat) ∧ cap = cap ∧ ∀ (i : Nat), i < (4 : Nat) → hsF i = hsF i) ∧ (len = len ∧ len = len ∧ ∀ (i : Nat), i < len → [Value.bool (alw
    i)] = [Value.bool (alw i)]) ∧ (len = len ∧ len = len ∧ ∀ (i : Nat), i < len → [Value.bool (som i)] = [Value.bool (som i)]) ∧ True) ∧ ((!wasD W a som (x.pl.getD y_1.val ((0 : Nat),
    (0 : Nat))) y_2.val) = false → (decide ((↑y_1.val : Int) > (0 : Int)) = true → ((-9223372036854775808 : Int) ≤ (↑y_1.val : Int) - (1 : Int) ∧ (↑y_1.val : Int) - (1 : Int) ≤
    (9223372036854775807 : Int)) ∧ ((0 : Int) ≤ (↑y_1.val : Int) - (1 : Int) ∧ (↑y_1.val : Int) - (1 : Int) < (↑x.pl.length : Int)) ∧ addO true (0 : Nat) ((↑y_1.val : Int) - (1 :
    Int)).toNat < x.pl.length ∧ (decide ((↑(x.pl.getD (addO true (0 : Nat) (↑y_1.val : Int).toNat) ((0 : Nat), (0 : Nat))).snd : Int) ≤ (↑(x.pl.getD (addO true (0 : Nat) ((↑y_1.val :
    Int) - (1 : Int)).toNat) ((0 : Nat), (0 : Nat))).snd : Int)) = true → true = false ∧ W = W ∧ A = A ∧ x = x ∧ ((4 : Nat) = (4 : Nat) ∧ cap = cap ∧ ∀ (i : Nat), i < (4 : Nat) → hsF i
    = hsF i) ∧ (len = len ∧ len = len ∧ ∀ (i : Nat), i < len → [Value.bool (alw i)] = [Value.bool (alw i)]) ∧ (len = len ∧ len = len ∧ ∀ (i : Nat), i < len → [Value.bool (som i)] =
    [Value.bool (som i)]) ∧ True) ∧ (decide ((↑(x.pl.getD (addO true (0 : Nat) (↑y_1.val : Int).toNat) ((0 : Nat), (0 : Nat))).snd : Int) ≤ (↑(x.pl.getD (addO true (0 : Nat) ((↑y_1.val
    : Int) - (1 : Int)).toNat) ((0 : Nat), (0 : Nat))).snd : Int)) = false → ((-9223372036854775808 : Int) ≤ (↑y_1.val : Int) + (1 : Int) ∧ (↑y_1.val : Int) + (1 : Int) ≤
    (9223372036854775807 : Int)) ∧ ∃ (y' : { j : Nat // j ≤ x.pl.length }), x.pl.length - y'.val < x.pl.length - y_1.val ∧ (0 : Nat) = (0 : Nat) ∧ cap = cap ∧ a = a ∧ len = len ∧ scap =
    scap ∧ (0 : Nat) = (0 : Nat) ∧ len = len ∧ len = len ∧ (0 : Nat) = (0 : Nat) ∧ len = len ∧ len = len ∧ (↑reads : Int) = (↑reads : Int) ∧ (0 : Nat) = (0 : Nat) ∧ x.pl.length =
    x.pl.length ∧ cap_1 = cap_1 ∧ (↑(cntS som y.val) : Int) = (↑(cntS som y.val) : Int) ∧ (0 : Nat) = (0 : Nat) ∧ x.pl.length = x.pl.length ∧ cap_1 = cap_1 ∧ (↑x.pl.length : Int) =
    (↑x.pl.length : Int) ∧ W = W ∧ HO.old (E := XE) (H := colH) (XO.ar A) = HO.old (E := XE) (H := colH) (XO.ar A) ∧ HO.obj (E := XE) (H := colH) [(1 : Nat)] x = HO.obj (E := XE) (H :=
    colH) [(1 : Nat)] x ∧ (4 : Nat) = (4 : Nat) ∧ cap = cap ∧ hsF = hsF ∧ len = len ∧ len = len ∧ ((fun (j : Nat) => [Value.bool (alw j)]) = fun (j : Nat) => [Value.bool (alw j)]) ∧ len
    = len ∧ len = len ∧ ((fun (j : Nat) => [Value.bool (som j)]) = fun (j : Nat) => [Value.bool (som j)]) ∧ x.pl.length = x.pl.length ∧ cap_1 = cap_1 ∧ (colRow x).f = (colRow x).f ∧
    (↑y'.val : Int) = (↑y_1.val : Int) + (1 : Int) ∧ True)) ∧ (decide ((↑y_1.val : Int) > (0 : Int)) = false → ((-9223372036854775808 : Int) ≤ (↑y_1.val : Int) + (1 : Int) ∧ (↑y_1.val :
    Int) + (1 : Int) ≤ (9223372036854775807 : Int)) ∧ ∃ (y' : { j : Nat // j ≤ x.pl.length }), x.pl.length - y'.val < x.pl.length - y_1.val ∧ (0 : Nat) = (0 : Nat) ∧ cap = cap ∧ a = a ∧
    len = len ∧ scap = scap ∧ (0 : Nat) = (0 : Nat) ∧ len = len ∧ len = len ∧ (0 : Nat) = (0 : Nat) ∧ len = len ∧ len = len ∧ (↑reads : Int) = (↑reads : Int) ∧ (0 : Nat) = (0 : Nat) ∧
    x.pl.length = x.pl.length ∧ cap_1 = cap_1 ∧ (↑(cntS som y.val) : Int) = (↑(cntS som y.val) : Int) ∧ (0 : Nat) = (0 : Nat) ∧ x.pl.length = x.pl.length ∧ cap_1 = cap_1 ∧ (↑x.pl.length
    : Int) = (↑x.pl.length : Int) ∧ W = W ∧ HO.old (E := XE) (H := colH) (XO.ar A) = HO.old (E := XE) (H := colH) (XO.ar A) ∧ HO.obj (E := XE) (H := colH) [(1 : Nat)] x = HO.obj (E :=
    XE) (H := colH) [(1 : Nat)] x ∧ (4 : Nat) = (4 : Nat) ∧ cap = cap ∧ hsF = hsF ∧ len = len ∧ len = len ∧ ((fun (j : Nat) => [Value.bool (alw j)]) = fun (j : Nat) => [Value.bool (alw
    j)]) ∧ len = len ∧ len = len ∧ ((fun (j : Nat) => [Value.bool (som j)]) = fun (j : Nat) => [Value.bool (som j)]) ∧ x.pl.length = x.pl.length ∧ cap_1 = cap_1 ∧ (colRow x).f = (colRow
    x).f ∧ (↑y'.val : Int) = (↑y_1.val : Int) + (1 : Int) ∧ True)))) ∧ (decide ((↑y_1.val : Int) < (↑x.pl.length : Int)) = false → ((-9223372036854775808 : Int) ≤ (16 : Int) * (↑(cntS
    som y.val) : Int) ∧ (16 : Int) * (↑(cntS som y.val) : Int) ≤ (9223372036854775807 : Int)) ∧ ((-9223372036854775808 : Int) ≤ (16 : Int) + (16 : Int) * (↑(cntS som y.val) : Int) ∧ (16
    : Int) + (16 : Int) * (↑(cntS som y.val) : Int) ≤ (9223372036854775807 : Int)) ∧ true = decide ((↑reads : Int) ≤ (16 : Int) + (16 : Int) * (↑(cntS som y.val) : Int)) ∧ W = W ∧ A = A
    ∧ x = x ∧ ((4 : Nat) = (4 : Nat) ∧ cap = cap ∧ ∀ (i : Nat), i < (4 : Nat) → hsF i = hsF i) ∧ (len = len ∧ len = len ∧ ∀ (i : Nat), i < len → [Value.bool (alw i)] = [Value.bool (alw
    i)]) ∧ (len = len ∧ len = len ∧ ∀ (i : Nat), i < len → [Value.bool (som i)] = [Value.bool (som i)]) ∧ True)))) := by
  kernel_rfl
theorem found13_run (W : World) (A : Ar) (x : Col) (a : Option Addr) (len cap scap : Nat) (alw som : Nat → Bool) (reads : Nat) (hc : FoundOk W a len x alw som reads) : Run (callN Try.prog (tblFo : List (Smry Try.prog XC)) (fun _ _ => false) 100 20 17 [.c (.ptr 2 0), .c (.sli 3 1 true 0 true 4 cap), .c (.sliv a false len scap), .c (.sli 4 1 true 0 false len len), .c (.sli 5 1 true 0 false len len), .c (.int false .i64 (reads : Int))] ⟨memF W A x len cap alw som, 100⟩ (scrFo W a len x.pl som) (fun v m _ => outM (.c (.boo false true)) (memF W A x len cap alw som) v m)) := by
  constructor
  rw [found13_vc]
  obtain ⟨l12, ph, pl16, hs, hx, all, was, up, few⟩ := hc
  have u8 : ∀ x, 0 ≤ seenInt .u8 W x ∧ seenInt .u8 W x ≤ 255 := fun x => seenInt_bd .u8 W x
  have hcn : ∀ j, cntS som j ≤ j := cntS_le som
  have hL : ∀ cap1, x.pl.length ≤ cap1 → x.pl.length ≤ cap1 := fun _ h => h
  simp only [Int.toNat_natCast, addO_eq, Nat.zero_add]
  repeat' first
    | with_reducible apply And.intro
    | with_reducible exact trivial
    | with_reducible exact Eq.refl _
    | (refine fun (K : KO XC) => ?_; simp only [eq_self, true_and, and_true, imp_self, implies_true]; done)
    | (refine fun (K : KO XC) => ?_; simp only [eq_self, true_and, and_true, imp_self, implies_true]; exact id)
    | (refine fun (K : KO XC) => ?_; simp only [eq_self, true_and, and_true, and_imp, imp_self, implies_true]; intros; simp_all only [and_self, imp_self, implies_true]; done)
    | intro _
  all_goals try simp only [decide_eq_true_eq, decide_eq_false_iff_not] at *
  all_goals try first
    | omega
    | with_reducible exact ph
    | with_reducible exact (u8 _).1
    | with_reducible exact (u8 _).2
    | with_reducible exact fun _ _ => trivial
    | with_reducible exact fun _ _ => rfl
    | ((with_reducible refine (?_ : ∃ x : Addr, _)); rename {j : Nat // j ≤ len} => z; exact hx _ (by omega))
    | ((with_reducible refine (?_ : Option.isSome _ = true)); rename {j : Nat // j ≤ len} => z; exact hs (by omega))
  all_goals try first
    | (have h1 := hcn ‹{j : Nat // j ≤ len}›.1; have h2 := ‹{j : Nat // j ≤ len}›.2; omega)
    | ((with_reducible refine (?_ : ∃ y : {j : Nat // j ≤ len}, _)); refine ⟨⟨0, Nat.zero_le _⟩, ?_⟩
       repeat' first
        | with_reducible apply And.intro
        | with_reducible exact trivial
        | with_reducible exact Eq.refl _
        | exact rfl
       done)
    | ((with_reducible refine (?_ : ∃ y : {j : Nat // j ≤ x.pl.length}, _)); refine ⟨⟨0, Nat.zero_le _⟩, ?_⟩
       repeat' first
        | with_reducible apply And.intro
        | with_reducible exact trivial
        | with_reducible exact Eq.refl _
        | exact rfl
       done)
    | ((with_reducible refine (?_ : ∃ y : {j : Nat // j ≤ len}, _)); rename {j : Nat // j ≤ len} => z; refine ⟨⟨z.1 + 1, by omega⟩, ?_⟩
       repeat' first
        | with_reducible apply And.intro
        | with_reducible exact trivial
        | with_reducible exact Eq.refl _
        | (show _ - (z.1 + 1) < _ - z.1; omega)
        | (show ((z.1 + 1 : Nat) : Int) = (z.1 : Int) + 1; rfl)
        | (refine (congrArg (fun n : Nat => (n : Int)) (cntS_succ som _)).trans ?_; rename som _ = true => h; rw [if_pos h]; rfl)
        | (refine (congrArg (fun n : Nat => (n : Int)) (cntS_succ som _)).trans ?_; rename som _ = false => h; rw [h]; rfl)
        | (refine (hasD_succ _ _ _).trans ?_; rename hasD _ _ _ = true => h; rw [h]; rfl)
        | (refine (hasD_succ _ _ _).trans ?_; rename hasD _ _ _ = false => h; rw [h, Bool.false_or]; exact (cmpD W a _ _).symm)
        | (refine (wasD_succ _ _ _ _ _).trans ?_; rename wasD _ _ _ _ _ = true => h; rw [h]; rfl)
        | (refine (wasD_succ _ _ _ _ _).trans ?_; rename wasD _ _ _ _ _ = false => h; rename som _ = true => h2; rw [h, h2, Bool.false_or, Bool.true_and]; exact (cmpD W a _ _).symm)
        | (refine (wasD_succ _ _ _ _ _).trans ?_; rename wasD _ _ _ _ _ = false => h; rename som _ = false => h2; rw [h, h2]; rfl))
    | ((with_reducible refine (?_ : ∃ y : {j : Nat // j ≤ x.pl.length}, _)); rename {j : Nat // j ≤ x.pl.length} => z; refine ⟨⟨z.1 + 1, by omega⟩, ?_⟩
       repeat' first
        | with_reducible apply And.intro
        | with_reducible exact trivial
        | with_reducible exact Eq.refl _
        | (show _ - (z.1 + 1) < _ - z.1; omega)
        | (show ((z.1 + 1 : Nat) : Int) = (z.1 : Int) + 1; rfl)
        | (refine (congrArg (fun n : Nat => (n : Int)) (cntS_succ som _)).trans ?_; rename som _ = true => h; rw [if_pos h]; rfl)
        | (refine (congrArg (fun n : Nat => (n : Int)) (cntS_succ som _)).trans ?_; rename som _ = false => h; rw [h]; rfl)
        | (refine (hasD_succ _ _ _).trans ?_; rename hasD _ _ _ = true => h; rw [h]; rfl)
        | (refine (hasD_succ _ _ _).trans ?_; rename hasD _ _ _ = false => h; rw [h, Bool.false_or]; exact (cmpD W a _ _).symm)
        | (refine (wasD_succ _ _ _ _ _).trans ?_; rename wasD _ _ _ _ _ = true => h; rw [h]; rfl)
        | (refine (wasD_succ _ _ _ _ _).trans ?_; rename wasD _ _ _ _ _ = false => h; rename som _ = true => h2; rw [h, h2, Bool.false_or, Bool.true_and]; exact (cmpD W a _ _).symm)
        | (refine (wasD_succ _ _ _ _ _).trans ?_; rename wasD _ _ _ _ _ = false => h; rename som _ = false => h2; rw [h, h2]; rfl))
  all_goals first
    | (exfalso; rename alw _ = true => h; rename {j : Nat // j ≤ len} => z; rename {j : Nat // j ≤ x.pl.length} => u
       have h1 := all z.1 (by omega) h
       have hu : u.1 = x.pl.length := (by have := u.2; omega)
       rename (!hasD _ _ _) = true => h2
       rw [hu, h1] at h2
       exact absurd h2 (by decide))
    | (exfalso; rename {j : Nat // j ≤ len} => d; rename {j : Nat // j ≤ x.pl.length} => u
       rename (!wasD _ _ _ _ _) = true => h2
       have h1 := was u.1 (by omega)
       have hd : d.1 = len := (by have := d.2; omega)
       rw [hd, h1] at h2
       exact absurd h2 (by decide))
    | (exfalso; rename {j : Nat // j ≤ x.pl.length} => u
       have e : ((u.1 : Int) - 1).toNat = u.1 - 1 := (by omega)
       have h1 := up u.1 (by omega) (by omega)
       simp only [e] at *
       omega)
    | (rename {j : Nat // j ≤ len} => z
       have h1 : z.1 = len := (by have := z.2; omega)
       symm
       rw [h1]
       exact decide_eq_true (by omega))
end Go.Proofs.Ytnfpkadepomjjaa
