/- HoldWins, of grips: the walk by the executor; conditions: the slices that are handed in are read as numbers. -/
import Derived.Test.YtgiakcepgbpchaaHoldW
import Derived.Test.YtgiakcepgbpchaaGate2
namespace Go.Proofs.Ytgiakcepgbpchaa
open Go
set_option maxRecDepth 1000000
set_option maxHeartbeats 0
def scriptG (l : Nat) : Scr XE := .both .nil (.both .nil (.both .nil (loopG l)))
/-- What the executor leaves to be shown, written out. -/
theorem holdG_vc (W : World) (a0 a1 : Option Addr) (l0 c0 l1 c1 : Nat) (hs0 : 0 < l0 → a0.isSome = true) (hx0 : ∀ j, j < l0 → Seen .u64 W (addOpt a0 j)) (hs1 : 0 < l1 → a1.isSome = true) (hx1 : ∀ j, j < l1 → Seen .u8 W (addOpt a1 j)) : (callN Try.prog tblG (fun _ _ => false) 100 20 4 [.c (.sliv a0 false l0 c0), .c (.sliv a1 false l1 c1), .c (.boo true false)] ⟨[(0, .seen W)], 1⟩ (scriptG l1) (fun v m _ => retSeen W v m)) = (
    (decide ((↑l1 : Int) > (100 : Int)) = true → true = true ∧ some W = some W) ∧ (decide ((↑l1 : Int) > (100 : Int)) = false → (((↑l0 : Int) == (0 : Int)) = true → true = true ∧ some W
    = some W) ∧ (((↑l0 : Int) == (0 : Int)) = false → (decide ((↑l0 : Int) > (100 : Int)) = true → true = true ∧ some W = some W) ∧ (decide ((↑l0 : Int) > (100 : Int)) = false → ∀ (v :
    Value) (cap : Nat) (z : Nat → Int) (ad : Option Addr) (ln cp : Nat), SegOk (1 : Nat) (segA [v]) → (1 : Nat) ≤ cap → (0 : Nat) < (1 : Nat) ∧ (2 : Nat) = (2 : Nat) ∧ (2 : Nat) = (2 :
    Nat) ∧ ((1 : Nat) ≤ (2 : Nat) ∧ (2 : Nat) ≤ (2048 : Nat)) ∧ (segA [v]).used + (2 : Nat) ≤ (segA [v]).cap ∧ ([] : List Nat) = [] ∧ (segA [v]).births < (268435455 : Nat) ∧ True ∧ ∀
    (v_1 : Value), ((0 : Int) ≤ (0 : Int) ∧ (0 : Int) < (↑l0 : Int) ∧ a0.isSome = true) ∧ Seen IntKind.u64 W (addOpt a0 (Int.toNat (0 : Int))) ∧ ((segA [v]).lay [(1 : Nat), (2 : Nat)]
    v_1).Has (0 : Int) (0 : Int) ∧ ((0 : Int) ≤ seenInt IntKind.u64 W (addOpt a0 (0 : Nat)) ∧ seenInt IntKind.u64 W (addOpt a0 (0 : Nat)) < (18446744073709551616 : Int)) ∧ ((0 : Int) ≤
    (0 : Int) ∧ (0 : Int) < (↑l0 : Int) ∧ a0.isSome = true) ∧ Seen IntKind.u64 W (addOpt a0 (Int.toNat (0 : Int))) ∧ (W = W ∧ (65537 : Int) = (65537 : Int) ∧ (W = W ∧ (65537 : Int) =
    (65537 : Int) ∧ (∀ (y : GY l1), (∃ (z : (Emb.mk { s : GS // GOk l1 s } GY.rd).Z), GY.rd z = y) ∨ (∃ (z : (Emb.mk { s : GS // GOk l1 s } GY.hd).Z), GY.hd z = y) ∨ (∃ (z : (Emb.mk { s
    : GS // GOk l1 s ∧ (↑(s.A.rd (65537 : Int) (3 : Int)) : Int) = (↑s.r : Int) / (1048576 : Int) } GY.lk).Z), GY.lk z = y) ∨ (∃ (z : (Emb.mk { s : GS // GOk l1 s ∧ (s.out = (1 : Int) →
    s.held = true ∨ (↑s.r : Int) / (1048576 : Int) = (0 : Int)) } GY.nn).Z), GY.nn z = y) ∨ False) ∧ (∃ (z : (Emb.mk { s : GS // GOk l1 s } GY.rd).Z), a0 = a0 ∧ l0 = l0 ∧ c0 = c0 ∧ a1 =
    a1 ∧ l1 = l1 ∧ c1 = c1 ∧ (↑l1 : Int) = (↑l1 : Int) ∧ W = W ∧ (65537 : Int) = (65537 : Int) ∧ z.val.held = false ∧ (↑z.val.k : Int) = (0 : Int) ∧ XO.ar z.val.A = XO.ar (((segA
    [v]).lay [(1 : Nat), (2 : Nat)] v_1).write (0 : Int) (0 : Int) (seenInt IntKind.u64 W (addOpt a0 (0 : Nat)))) ∧ ((((0 : Nat) = (0 : Nat) ∧ True) ∧ True) ∧ (0 : Nat) = (0 : Nat) ∧
    (65537 : Int) = (65537 : Int) ∧ (0 : Int) = (0 : Int) ∧ (0 : Int) = (0 : Int) ∧ (0 : Int) = (0 : Int) ∧ True) ∧ True) ∧ (∀ (z : (Emb.mk { s : GS // GOk l1 s } GY.rd).Z) (ρ : Nat →
    Value), (decide ((↑z.val.k : Int) < (↑l1 : Int)) = true → ((0 : Int) ≤ (↑z.val.k : Int) ∧ (↑z.val.k : Int) < (↑l1 : Int) ∧ a1.isSome = true) ∧ Seen IntKind.u8 W (addOpt a1 (↑z.val.k
    : Int).toNat) ∧ ((seenInt IntKind.u8 W (addOpt a1 (↑z.val.k : Int).toNat) % (3 : Int) == (0 : Int)) = true → ((0 : Int) ≤ (↑z.val.k : Int) ∧ (0 : Int) < (↑l0 : Int)) ∧ ((0 : Int) ≤
    (↑z.val.k : Int) % (↑l0 : Int) ∧ (↑z.val.k : Int) % (↑l0 : Int) < (↑l0 : Int) ∧ a0.isSome = true) ∧ Seen IntKind.u64 W (addOpt a0 ((↑z.val.k : Int) % (↑l0 : Int)).toNat) ∧
    z.val.A.Has (0 : Int) (0 : Int) ∧ ((0 : Int) ≤ seenInt IntKind.u64 W (addOpt a0 ((↑z.val.k : Int) % (↑l0 : Int)).toNat) ∧ seenInt IntKind.u64 W (addOpt a0 ((↑z.val.k : Int) % (↑l0 :
    Int)).toNat) < (18446744073709551616 : Int)) ∧ (z.val.A.write (0 : Int) (0 : Int) (seenInt IntKind.u64 W (addOpt a0 ((↑z.val.k : Int) % (↑l0 : Int)).toNat))).Has (0 : Int) (0 : Int)
    ∧ (z.val.A.write (0 : Int) (0 : Int) (seenInt IntKind.u64 W (addOpt a0 ((↑z.val.k : Int) % (↑l0 : Int)).toNat))).read.Has (65537 : Int) (3 : Int) ∧ (z.val.A.write (0 : Int) (0 :
    Int) (seenInt IntKind.u64 W (addOpt a0 ((↑z.val.k : Int) % (↑l0 : Int)).toNat))).read.read.Has (65537 : Int) (4 : Int) ∧ (z.val.held = true → ((-9223372036854775808 : Int) ≤
    (↑z.val.k : Int) + (1 : Int) ∧ (↑z.val.k : Int) + (1 : Int) ≤ (9223372036854775807 : Int)) ∧ ∃ (z_1 : (Emb.mk { s : GS // GOk l1 s } GY.rd).Z), l1 - ((Emb.mk { s : GS // GOk l1 s }
    GY.rd).e z_1).s.k < l1 - ((Emb.mk { s : GS // GOk l1 s } GY.rd).e z).s.k ∧ a0 = a0 ∧ l0 = l0 ∧ c0 = c0 ∧ a1 = a1 ∧ l1 = l1 ∧ c1 = c1 ∧ (↑l1 : Int) = (↑l1 : Int) ∧ W = W ∧ (65537 :
    Int) = (65537 : Int) ∧ z_1.val.held = true ∧ (↑z_1.val.k : Int) = (↑z.val.k : Int) + (1 : Int) ∧ XO.ar z_1.val.A = XO.ar (z.val.A.write (0 : Int) (0 : Int) (seenInt IntKind.u64 W
    (addOpt a0 ((↑z.val.k : Int) % (↑l0 : Int)).toNat))).read.read.read ∧ ((((0 : Nat) = (0 : Nat) ∧ True) ∧ True) ∧ (0 : Nat) = (0 : Nat) ∧ (65537 : Int) = (65537 : Int) ∧ (0 : Int) =
    (0 : Int) ∧ (0 : Int) = (0 : Int) ∧ (0 : Int) = (0 : Int) ∧ True) ∧ True) ∧ (z.val.held = false → ((-9223372036854775808 : Int) ≤ (↑z.val.k : Int) + (1 : Int) ∧ (↑z.val.k : Int) +
    (1 : Int) ≤ (9223372036854775807 : Int)) ∧ ∃ (z_1 : (Emb.mk { s : GS // GOk l1 s } GY.rd).Z), l1 - ((Emb.mk { s : GS // GOk l1 s } GY.rd).e z_1).s.k < l1 - ((Emb.mk { s : GS // GOk
    l1 s } GY.rd).e z).s.k ∧ a0 = a0 ∧ l0 = l0 ∧ c0 = c0 ∧ a1 = a1 ∧ l1 = l1 ∧ c1 = c1 ∧ (↑l1 : Int) = (↑l1 : Int) ∧ W = W ∧ (65537 : Int) = (65537 : Int) ∧ z_1.val.held = false ∧
    (↑z_1.val.k : Int) = (↑z.val.k : Int) + (1 : Int) ∧ XO.ar z_1.val.A = XO.ar (z.val.A.write (0 : Int) (0 : Int) (seenInt IntKind.u64 W (addOpt a0 ((↑z.val.k : Int) % (↑l0 :
    Int)).toNat))).read.read.read ∧ ((((0 : Nat) = (0 : Nat) ∧ True) ∧ True) ∧ (0 : Nat) = (0 : Nat) ∧ (65537 : Int) = (65537 : Int) ∧ (0 : Int) = (0 : Int) ∧ (0 : Int) = (0 : Int) ∧ (0
    : Int) = (0 : Int) ∧ True) ∧ True)) ∧ ((seenInt IntKind.u8 W (addOpt a1 (↑z.val.k : Int).toNat) % (3 : Int) == (0 : Int)) = false → (W = W ∧ (z.val.A.Has (0 : Int) (0 : Int) ∧
    (z.val.A.read.Has (0 : Int) (0 : Int) ∧ z.val.A.read.read.Has (65537 : Int) (3 : Int) ∧ z.val.A.read.read.read.Has (65537 : Int) (4 : Int) ∧ (z.val.held = true →
    ((-9223372036854775808 : Int) ≤ (↑z.val.k : Int) + (1 : Int) ∧ (↑z.val.k : Int) + (1 : Int) ≤ (9223372036854775807 : Int)) ∧ ∃ (z_1 : (Emb.mk { s : GS // GOk l1 s } GY.hd).Z), l1 -
    ((Emb.mk { s : GS // GOk l1 s } GY.hd).e z_1).s.k < l1 - ((Emb.mk { s : GS // GOk l1 s } GY.rd).e z).s.k ∧ a0 = a0 ∧ l0 = l0 ∧ c0 = c0 ∧ a1 = a1 ∧ l1 = l1 ∧ c1 = c1 ∧ (↑l1 : Int) =
    (↑l1 : Int) ∧ W = W ∧ (65537 : Int) = (65537 : Int) ∧ z_1.val.held = true ∧ (↑z_1.val.k : Int) = (↑z.val.k : Int) + (1 : Int) ∧ XO.ar z_1.val.A = XO.ar z.val.A.read.read.read.read ∧
    ((((0 : Nat) = (0 : Nat) ∧ True) ∧ True) ∧ (0 : Nat) = (0 : Nat) ∧ (65537 : Int) = (65537 : Int) ∧ (0 : Int) = (0 : Int) ∧ (↑z_1.val.r : Int) = (↑(z.val.A.rd (0 : Int) (0 : Int)) :
    Int) ∧ (0 : Int) = (0 : Int) ∧ True) ∧ True) ∧ (z.val.held = false → (((↑(z.val.A.rd (0 : Int) (0 : Int)) : Int) != (0 : Int)) = true → (((↑(z.val.A.read.read.rd (65537 : Int) (3 :
    Int)) : Int) == (↑(z.val.A.rd (0 : Int) (0 : Int)) : Int) / (1048576 : Int)) = true → ((-9223372036854775808 : Int) ≤ (↑z.val.k : Int) + (1 : Int) ∧ (↑z.val.k : Int) + (1 : Int) ≤
    (9223372036854775807 : Int)) ∧ ∃ (z_1 : (Emb.mk { s : GS // GOk l1 s } GY.hd).Z), l1 - ((Emb.mk { s : GS // GOk l1 s } GY.hd).e z_1).s.k < l1 - ((Emb.mk { s : GS // GOk l1 s }
    GY.rd).e z).s.k ∧ a0 = a0 ∧ l0 = l0 ∧ c0 = c0 ∧ a1 = a1 ∧ l1 = l1 ∧ c1 = c1 ∧ (↑l1 : Int) = (↑l1 : Int) ∧ W = W ∧ (65537 : Int) = (65537 : Int) ∧ z_1.val.held = ((↑(z.val.A.read.rd
    (0 : Int) (0 : Int)) : Int) == (↑(z.val.A.rd (0 : Int) (0 : Int)) : Int)) ∧ (↑z_1.val.k : Int) = (↑z.val.k : Int) + (1 : Int) ∧ XO.ar z_1.val.A = XO.ar z.val.A.read.read.read.read ∧
    ((((0 : Nat) = (0 : Nat) ∧ True) ∧ True) ∧ (0 : Nat) = (0 : Nat) ∧ (65537 : Int) = (65537 : Int) ∧ (0 : Int) = (0 : Int) ∧ (↑z_1.val.r : Int) = (↑(z.val.A.rd (0 : Int) (0 : Int)) :
    Int) ∧ (0 : Int) = (0 : Int) ∧ True) ∧ True) ∧ (((↑(z.val.A.read.read.rd (65537 : Int) (3 : Int)) : Int) == (↑(z.val.A.rd (0 : Int) (0 : Int)) : Int) / (1048576 : Int)) = false →
    ((-9223372036854775808 : Int) ≤ (↑z.val.k : Int) + (1 : Int) ∧ (↑z.val.k : Int) + (1 : Int) ≤ (9223372036854775807 : Int)) ∧ ∃ (z_1 : (Emb.mk { s : GS // GOk l1 s } GY.hd).Z), l1 -
    ((Emb.mk { s : GS // GOk l1 s } GY.hd).e z_1).s.k < l1 - ((Emb.mk { s : GS // GOk l1 s } GY.rd).e z).s.k ∧ a0 = a0 ∧ l0 = l0 ∧ c0 = c0 ∧ a1 = a1 ∧ l1 = l1 ∧ c1 = c1 ∧ (↑l1 : Int) =
    (↑l1 : Int) ∧ W = W ∧ (65537 : Int) = (65537 : Int) ∧ z_1.val.held = false ∧ (↑z_1.val.k : Int) = (↑z.val.k : Int) + (1 : Int) ∧ XO.ar z_1.val.A = XO.ar z.val.A.read.read.read.read
    ∧ ((((0 : Nat) = (0 : Nat) ∧ True) ∧ True) ∧ (0 : Nat) = (0 : Nat) ∧ (65537 : Int) = (65537 : Int) ∧ (0 : Int) = (0 : Int) ∧ (↑z_1.val.r : Int) = (↑(z.val.A.rd (0 : Int) (0 : Int))
    : Int) ∧ (0 : Int) = (0 : Int) ∧ True) ∧ True)) ∧ (((↑(z.val.A.rd (0 : Int) (0 : Int)) : Int) != (0 : Int)) = false → ((-9223372036854775808 : Int) ≤ (↑z.val.k : Int) + (1 : Int) ∧
    (↑z.val.k : Int) + (1 : Int) ≤ (9223372036854775807 : Int)) ∧ ∃ (z_1 : (Emb.mk { s : GS // GOk l1 s } GY.hd).Z), l1 - ((Emb.mk { s : GS // GOk l1 s } GY.hd).e z_1).s.k < l1 -
    ((Emb.mk { s : GS // GOk l1 s } GY.rd).e z).s.k ∧ a0 = a0 ∧ l0 = l0 ∧ c0 = c0 ∧ a1 = a1 ∧ l1 = l1 ∧ c1 = c1 ∧ (↑l1 : Int) = (↑l1 : Int) ∧ W = W ∧ (65537 : Int) = (65537 : Int) ∧
    z_1.val.held = false ∧ (↑z_1.val.k : Int) = (↑z.val.k : Int) + (1 : Int) ∧ XO.ar z_1.val.A = XO.ar z.val.A.read.read.read.read ∧ ((((0 : Nat) = (0 : Nat) ∧ True) ∧ True) ∧ (0 : Nat)
    = (0 : Nat) ∧ (65537 : Int) = (65537 : Int) ∧ (0 : Int) = (0 : Int) ∧ (↑z_1.val.r : Int) = (↑(z.val.A.rd (0 : Int) (0 : Int)) : Int) ∧ (0 : Int) = (0 : Int) ∧ True) ∧ True))) ∧
    True) ∧ True) ∧ True)) ∧ (decide ((↑z.val.k : Int) < (↑l1 : Int)) = false → true = true ∧ some W = some W)) ∧ (∀ (z : (Emb.mk { s : GS // GOk l1 s } GY.hd).Z) (ρ : Nat → Value),
    (decide ((↑z.val.k : Int) < (↑l1 : Int)) = true → ((0 : Int) ≤ (↑z.val.k : Int) ∧ (↑z.val.k : Int) < (↑l1 : Int) ∧ a1.isSome = true) ∧ Seen IntKind.u8 W (addOpt a1 (↑z.val.k :
    Int).toNat) ∧ ((seenInt IntKind.u8 W (addOpt a1 (↑z.val.k : Int).toNat) % (3 : Int) == (0 : Int)) = true → ((0 : Int) ≤ (↑z.val.k : Int) ∧ (0 : Int) < (↑l0 : Int)) ∧ ((0 : Int) ≤
    (↑z.val.k : Int) % (↑l0 : Int) ∧ (↑z.val.k : Int) % (↑l0 : Int) < (↑l0 : Int) ∧ a0.isSome = true) ∧ Seen IntKind.u64 W (addOpt a0 ((↑z.val.k : Int) % (↑l0 : Int)).toNat) ∧
    z.val.A.Has (0 : Int) (0 : Int) ∧ ((0 : Int) ≤ seenInt IntKind.u64 W (addOpt a0 ((↑z.val.k : Int) % (↑l0 : Int)).toNat) ∧ seenInt IntKind.u64 W (addOpt a0 ((↑z.val.k : Int) % (↑l0 :
    Int)).toNat) < (18446744073709551616 : Int)) ∧ (z.val.A.write (0 : Int) (0 : Int) (seenInt IntKind.u64 W (addOpt a0 ((↑z.val.k : Int) % (↑l0 : Int)).toNat))).Has (0 : Int) (0 : Int)
    ∧ (z.val.A.write (0 : Int) (0 : Int) (seenInt IntKind.u64 W (addOpt a0 ((↑z.val.k : Int) % (↑l0 : Int)).toNat))).read.Has (65537 : Int) (3 : Int) ∧ (z.val.A.write (0 : Int) (0 :
    Int) (seenInt IntKind.u64 W (addOpt a0 ((↑z.val.k : Int) % (↑l0 : Int)).toNat))).read.read.Has (65537 : Int) (4 : Int) ∧ (z.val.held = true → ((-9223372036854775808 : Int) ≤
    (↑z.val.k : Int) + (1 : Int) ∧ (↑z.val.k : Int) + (1 : Int) ≤ (9223372036854775807 : Int)) ∧ ∃ (z_1 : (Emb.mk { s : GS // GOk l1 s } GY.hd).Z), l1 - ((Emb.mk { s : GS // GOk l1 s }
    GY.hd).e z_1).s.k < l1 - ((Emb.mk { s : GS // GOk l1 s } GY.hd).e z).s.k ∧ a0 = a0 ∧ l0 = l0 ∧ c0 = c0 ∧ a1 = a1 ∧ l1 = l1 ∧ c1 = c1 ∧ (↑l1 : Int) = (↑l1 : Int) ∧ W = W ∧ (65537 :
    Int) = (65537 : Int) ∧ z_1.val.held = true ∧ (↑z_1.val.k : Int) = (↑z.val.k : Int) + (1 : Int) ∧ XO.ar z_1.val.A = XO.ar (z.val.A.write (0 : Int) (0 : Int) (seenInt IntKind.u64 W
    (addOpt a0 ((↑z.val.k : Int) % (↑l0 : Int)).toNat))).read.read.read ∧ ((((0 : Nat) = (0 : Nat) ∧ True) ∧ True) ∧ (0 : Nat) = (0 : Nat) ∧ (65537 : Int) = (65537 : Int) ∧ (0 : Int) =
    (0 : Int) ∧ (↑z_1.val.r : Int) = (↑z.val.r : Int) ∧ (0 : Int) = (0 : Int) ∧ True) ∧ True) ∧ (z.val.held = false → (((↑z.val.r : Int) != (0 : Int)) = true → (((↑((z.val.A.write (0 :
    Int) (0 : Int) (seenInt IntKind.u64 W (addOpt a0 ((↑z.val.k : Int) % (↑l0 : Int)).toNat))).read.rd (65537 : Int) (3 : Int)) : Int) == (↑z.val.r : Int) / (1048576 : Int)) = true →
    ((-9223372036854775808 : Int) ≤ (↑z.val.k : Int) + (1 : Int) ∧ (↑z.val.k : Int) + (1 : Int) ≤ (9223372036854775807 : Int)) ∧ ∃ (z_1 : (Emb.mk { s : GS // GOk l1 s } GY.hd).Z), l1 -
    ((Emb.mk { s : GS // GOk l1 s } GY.hd).e z_1).s.k < l1 - ((Emb.mk { s : GS // GOk l1 s } GY.hd).e z).s.k ∧ a0 = a0 ∧ l0 = l0 ∧ c0 = c0 ∧ a1 = a1 ∧ l1 = l1 ∧ c1 = c1 ∧ (↑l1 : Int) =
    (↑l1 : Int) ∧ W = W ∧ (65537 : Int) = (65537 : Int) ∧ z_1.val.held = ((↑((z.val.A.write (0 : Int) (0 : Int) (seenInt IntKind.u64 W (addOpt a0 ((↑z.val.k : Int) % (↑l0 :
    Int)).toNat))).rd (0 : Int) (0 : Int)) : Int) == (↑z.val.r : Int)) ∧ (↑z_1.val.k : Int) = (↑z.val.k : Int) + (1 : Int) ∧ XO.ar z_1.val.A = XO.ar (z.val.A.write (0 : Int) (0 : Int)
    (seenInt IntKind.u64 W (addOpt a0 ((↑z.val.k : Int) % (↑l0 : Int)).toNat))).read.read.read ∧ ((((0 : Nat) = (0 : Nat) ∧ True) ∧ True) ∧ (0 : Nat) = (0 : Nat) ∧ (65537 : Int) =
    (65537 : Int) ∧ (0 : Int) = (0 : Int) ∧ (↑z_1.val.r : Int) = (↑z.val.r : Int) ∧ (0 : Int) = (0 : Int) ∧ True) ∧ True) ∧ (((↑((z.val.A.write (0 : Int) (0 : Int) (seenInt IntKind.u64
    W (addOpt a0 ((↑z.val.k : Int) % (↑l0 : Int)).toNat))).read.rd (65537 : Int) (3 : Int)) : Int) == (↑z.val.r : Int) / (1048576 : Int)) = false → ((-9223372036854775808 : Int) ≤
    (↑z.val.k : Int) + (1 : Int) ∧ (↑z.val.k : Int) + (1 : Int) ≤ (9223372036854775807 : Int)) ∧ ∃ (z_1 : (Emb.mk { s : GS // GOk l1 s } GY.hd).Z), l1 - ((Emb.mk { s : GS // GOk l1 s }
    GY.hd).e z_1).s.k < l1 - ((Emb.mk { s : GS // GOk l1 s } GY.hd).e z).s.k ∧ a0 = a0 ∧ l0 = l0 ∧ c0 = c0 ∧ a1 = a1 ∧ l1 = l1 ∧ c1 = c1 ∧ (↑l1 : Int) = (↑l1 : Int) ∧ W = W ∧ (65537 :
    Int) = (65537 : Int) ∧ z_1.val.held = false ∧ (↑z_1.val.k : Int) = (↑z.val.k : Int) + (1 : Int) ∧ XO.ar z_1.val.A = XO.ar (z.val.A.write (0 : Int) (0 : Int) (seenInt IntKind.u64 W
    (addOpt a0 ((↑z.val.k : Int) % (↑l0 : Int)).toNat))).read.read.read ∧ ((((0 : Nat) = (0 : Nat) ∧ True) ∧ True) ∧ (0 : Nat) = (0 : Nat) ∧ (65537 : Int) = (65537 : Int) ∧ (0 : Int) =
    (0 : Int) ∧ (↑z_1.val.r : Int) = (↑z.val.r : Int) ∧ (0 : Int) = (0 : Int) ∧ True) ∧ True)) ∧ (((↑z.val.r : Int) != (0 : Int)) = false → ((-9223372036854775808 : Int) ≤ (↑z.val.k :
    Int) + (1 : Int) ∧ (↑z.val.k : Int) + (1 : Int) ≤ (9223372036854775807 : Int)) ∧ ∃ (z_1 : (Emb.mk { s : GS // GOk l1 s } GY.hd).Z), l1 - ((Emb.mk { s : GS // GOk l1 s } GY.hd).e
    z_1).s.k < l1 - ((Emb.mk { s : GS // GOk l1 s } GY.hd).e z).s.k ∧ a0 = a0 ∧ l0 = l0 ∧ c0 = c0 ∧ a1 = a1 ∧ l1 = l1 ∧ c1 = c1 ∧ (↑l1 : Int) = (↑l1 : Int) ∧ W = W ∧ (65537 : Int) =
    (65537 : Int) ∧ z_1.val.held = false ∧ (↑z_1.val.k : Int) = (↑z.val.k : Int) + (1 : Int) ∧ XO.ar z_1.val.A = XO.ar (z.val.A.write (0 : Int) (0 : Int) (seenInt IntKind.u64 W (addOpt
    a0 ((↑z.val.k : Int) % (↑l0 : Int)).toNat))).read.read.read ∧ ((((0 : Nat) = (0 : Nat) ∧ True) ∧ True) ∧ (0 : Nat) = (0 : Nat) ∧ (65537 : Int) = (65537 : Int) ∧ (0 : Int) = (0 :
    Int) ∧ (↑z_1.val.r : Int) = (↑z.val.r : Int) ∧ (0 : Int) = (0 : Int) ∧ True) ∧ True))) ∧ ((seenInt IntKind.u8 W (addOpt a1 (↑z.val.k : Int).toNat) % (3 : Int) == (0 : Int)) = false
    → (((z.val.A.Has (65537 : Int) (3 : Int) ∧ ((0 : Int) ≤ (↑z.val.r : Int) / (1048576 : Int) ∧ (↑z.val.r : Int) / (1048576 : Int) < (18446744073709551616 : Int)) ∧ (↑z.val.r : Int) =
    (↑z.val.r : Int) ∧ W = W ∧ (z.val.A.write (65537 : Int) (3 : Int) ((↑z.val.r : Int) / (1048576 : Int))).Has (0 : Int) (0 : Int) ∧ (z.val.A.write (65537 : Int) (3 : Int) ((↑z.val.r :
    Int) / (1048576 : Int))).read.Has (65537 : Int) (3 : Int) ∧ (z.val.A.write (65537 : Int) (3 : Int) ((↑z.val.r : Int) / (1048576 : Int))).read.read.Has (65537 : Int) (4 : Int) ∧
    (z.val.held = true → ((-9223372036854775808 : Int) ≤ (↑z.val.k : Int) + (1 : Int) ∧ (↑z.val.k : Int) + (1 : Int) ≤ (9223372036854775807 : Int)) ∧ ∃ (z_1 : (Emb.mk { s : GS // GOk l1
    s ∧ (↑(s.A.rd (65537 : Int) (3 : Int)) : Int) = (↑s.r : Int) / (1048576 : Int) } GY.lk).Z), l1 - ((Emb.mk { s : GS // GOk l1 s ∧ (↑(s.A.rd (65537 : Int) (3 : Int)) : Int) = (↑s.r :
    Int) / (1048576 : Int) } GY.lk).e z_1).s.k < l1 - ((Emb.mk { s : GS // GOk l1 s } GY.hd).e z).s.k ∧ a0 = a0 ∧ l0 = l0 ∧ c0 = c0 ∧ a1 = a1 ∧ l1 = l1 ∧ c1 = c1 ∧ (↑l1 : Int) = (↑l1 :
    Int) ∧ W = W ∧ (65537 : Int) = (65537 : Int) ∧ z_1.val.held = true ∧ (↑z_1.val.k : Int) = (↑z.val.k : Int) + (1 : Int) ∧ XO.ar z_1.val.A = XO.ar (z.val.A.write (65537 : Int) (3 :
    Int) ((↑z.val.r : Int) / (1048576 : Int))).read.read.read ∧ ((((0 : Nat) = (0 : Nat) ∧ True) ∧ True) ∧ (0 : Nat) = (0 : Nat) ∧ (65537 : Int) = (65537 : Int) ∧ (0 : Int) = (0 : Int)
    ∧ (↑z_1.val.r : Int) = (↑z.val.r : Int) ∧ (0 : Int) = (0 : Int) ∧ True) ∧ True) ∧ (z.val.held = false → (((↑z.val.r : Int) != (0 : Int)) = true → (((↑((z.val.A.write (65537 : Int)
    (3 : Int) ((↑z.val.r : Int) / (1048576 : Int))).read.rd (65537 : Int) (3 : Int)) : Int) == (↑z.val.r : Int) / (1048576 : Int)) = true → ((-9223372036854775808 : Int) ≤ (↑z.val.k :
    Int) + (1 : Int) ∧ (↑z.val.k : Int) + (1 : Int) ≤ (9223372036854775807 : Int)) ∧ ∃ (z_1 : (Emb.mk { s : GS // GOk l1 s ∧ (↑(s.A.rd (65537 : Int) (3 : Int)) : Int) = (↑s.r : Int) /
    (1048576 : Int) } GY.lk).Z), l1 - ((Emb.mk { s : GS // GOk l1 s ∧ (↑(s.A.rd (65537 : Int) (3 : Int)) : Int) = (↑s.r : Int) / (1048576 : Int) } GY.lk).e z_1).s.k < l1 - ((Emb.mk { s
    : GS // GOk l1 s } GY.hd).e z).s.k ∧ a0 = a0 ∧ l0 = l0 ∧ c0 = c0 ∧ a1 = a1 ∧ l1 = l1 ∧ c1 = c1 ∧ (↑l1 : Int) = (↑l1 : Int) ∧ W = W ∧ (65537 : Int) = (65537 : Int) ∧ z_1.val.held =
    ((↑((z.val.A.write (65537 : Int) (3 : Int) ((↑z.val.r : Int) / (1048576 : Int))).rd (0 : Int) (0 : Int)) : Int) == (↑z.val.r : Int)) ∧ (↑z_1.val.k : Int) = (↑z.val.k : Int) + (1 :
    Int) ∧ XO.ar z_1.val.A = XO.ar (z.val.A.write (65537 : Int) (3 : Int) ((↑z.val.r : Int) / (1048576 : Int))).read.read.read ∧ ((((0 : Nat) = (0 : Nat) ∧ True) ∧ True) ∧ (0 : Nat) =
    (0 : Nat) ∧ (65537 : Int) = (65537 : Int) ∧ (0 : Int) = (0 : Int) ∧ (↑z_1.val.r : Int) = (↑z.val.r : Int) ∧ (0 : Int) = (0 : Int) ∧ True) ∧ True) ∧ (((↑((z.val.A.write (65537 : Int)
    (3 : Int) ((↑z.val.r : Int) / (1048576 : Int))).read.rd (65537 : Int) (3 : Int)) : Int) == (↑z.val.r : Int) / (1048576 : Int)) = false → ((-9223372036854775808 : Int) ≤ (↑z.val.k :
    Int) + (1 : Int) ∧ (↑z.val.k : Int) + (1 : Int) ≤ (9223372036854775807 : Int)) ∧ ∃ (z_1 : (Emb.mk { s : GS // GOk l1 s ∧ (↑(s.A.rd (65537 : Int) (3 : Int)) : Int) = (↑s.r : Int) /
    (1048576 : Int) } GY.lk).Z), l1 - ((Emb.mk { s : GS // GOk l1 s ∧ (↑(s.A.rd (65537 : Int) (3 : Int)) : Int) = (↑s.r : Int) / (1048576 : Int) } GY.lk).e z_1).s.k < l1 - ((Emb.mk { s
    : GS // GOk l1 s } GY.hd).e z).s.k ∧ a0 = a0 ∧ l0 = l0 ∧ c0 = c0 ∧ a1 = a1 ∧ l1 = l1 ∧ c1 = c1 ∧ (↑l1 : Int) = (↑l1 : Int) ∧ W = W ∧ (65537 : Int) = (65537 : Int) ∧ z_1.val.held =
    false ∧ (↑z_1.val.k : Int) = (↑z.val.k : Int) + (1 : Int) ∧ XO.ar z_1.val.A = XO.ar (z.val.A.write (65537 : Int) (3 : Int) ((↑z.val.r : Int) / (1048576 : Int))).read.read.read ∧
    ((((0 : Nat) = (0 : Nat) ∧ True) ∧ True) ∧ (0 : Nat) = (0 : Nat) ∧ (65537 : Int) = (65537 : Int) ∧ (0 : Int) = (0 : Int) ∧ (↑z_1.val.r : Int) = (↑z.val.r : Int) ∧ (0 : Int) = (0 :
    Int) ∧ True) ∧ True)) ∧ (((↑z.val.r : Int) != (0 : Int)) = false → ((-9223372036854775808 : Int) ≤ (↑z.val.k : Int) + (1 : Int) ∧ (↑z.val.k : Int) + (1 : Int) ≤ (9223372036854775807
    : Int)) ∧ ∃ (z_1 : (Emb.mk { s : GS // GOk l1 s ∧ (↑(s.A.rd (65537 : Int) (3 : Int)) : Int) = (↑s.r : Int) / (1048576 : Int) } GY.lk).Z), l1 - ((Emb.mk { s : GS // GOk l1 s ∧
    (↑(s.A.rd (65537 : Int) (3 : Int)) : Int) = (↑s.r : Int) / (1048576 : Int) } GY.lk).e z_1).s.k < l1 - ((Emb.mk { s : GS // GOk l1 s } GY.hd).e z).s.k ∧ a0 = a0 ∧ l0 = l0 ∧ c0 = c0 ∧
    a1 = a1 ∧ l1 = l1 ∧ c1 = c1 ∧ (↑l1 : Int) = (↑l1 : Int) ∧ W = W ∧ (65537 : Int) = (65537 : Int) ∧ z_1.val.held = false ∧ (↑z_1.val.k : Int) = (↑z.val.k : Int) + (1 : Int) ∧ XO.ar
    z_1.val.A = XO.ar (z.val.A.write (65537 : Int) (3 : Int) ((↑z.val.r : Int) / (1048576 : Int))).read.read.read ∧ ((((0 : Nat) = (0 : Nat) ∧ True) ∧ True) ∧ (0 : Nat) = (0 : Nat) ∧
    (65537 : Int) = (65537 : Int) ∧ (0 : Int) = (0 : Int) ∧ (↑z_1.val.r : Int) = (↑z.val.r : Int) ∧ (0 : Int) = (0 : Int) ∧ True) ∧ True))) ∧ True) ∧ True) ∧ True)) ∧ (decide ((↑z.val.k
    : Int) < (↑l1 : Int)) = false → true = true ∧ some W = some W)) ∧ (∀ (z : (Emb.mk { s : GS // GOk l1 s ∧ (↑(s.A.rd (65537 : Int) (3 : Int)) : Int) = (↑s.r : Int) / (1048576 : Int) }
    GY.lk).Z) (ρ : Nat → Value), (decide ((↑z.val.k : Int) < (↑l1 : Int)) = true → ((0 : Int) ≤ (↑z.val.k : Int) ∧ (↑z.val.k : Int) < (↑l1 : Int) ∧ a1.isSome = true) ∧ Seen IntKind.u8 W
    (addOpt a1 (↑z.val.k : Int).toNat) ∧ ((seenInt IntKind.u8 W (addOpt a1 (↑z.val.k : Int).toNat) % (3 : Int) == (0 : Int)) = true → ((0 : Int) ≤ (↑z.val.k : Int) ∧ (0 : Int) < (↑l0 :
    Int)) ∧ ((0 : Int) ≤ (↑z.val.k : Int) % (↑l0 : Int) ∧ (↑z.val.k : Int) % (↑l0 : Int) < (↑l0 : Int) ∧ a0.isSome = true) ∧ Seen IntKind.u64 W (addOpt a0 ((↑z.val.k : Int) % (↑l0 :
    Int)).toNat) ∧ z.val.A.Has (0 : Int) (0 : Int) ∧ ((0 : Int) ≤ seenInt IntKind.u64 W (addOpt a0 ((↑z.val.k : Int) % (↑l0 : Int)).toNat) ∧ seenInt IntKind.u64 W (addOpt a0 ((↑z.val.k
    : Int) % (↑l0 : Int)).toNat) < (18446744073709551616 : Int)) ∧ (z.val.A.write (0 : Int) (0 : Int) (seenInt IntKind.u64 W (addOpt a0 ((↑z.val.k : Int) % (↑l0 : Int)).toNat))).Has (0
    : Int) (0 : Int) ∧ (z.val.A.write (0 : Int) (0 : Int) (seenInt IntKind.u64 W (addOpt a0 ((↑z.val.k : Int) % (↑l0 : Int)).toNat))).read.Has (65537 : Int) (3 : Int) ∧ (z.val.A.write
    (0 : Int) (0 : Int) (seenInt IntKind.u64 W (addOpt a0 ((↑z.val.k : Int) % (↑l0 : Int)).toNat))).read.read.Has (65537 : Int) (4 : Int) ∧ (z.val.held = true → ((-9223372036854775808 :
    Int) ≤ (↑z.val.k : Int) + (1 : Int) ∧ (↑z.val.k : Int) + (1 : Int) ≤ (9223372036854775807 : Int)) ∧ ∃ (z_1 : (Emb.mk { s : GS // GOk l1 s ∧ (↑(s.A.rd (65537 : Int) (3 : Int)) : Int)
    = (↑s.r : Int) / (1048576 : Int) } GY.lk).Z), l1 - ((Emb.mk { s : GS // GOk l1 s ∧ (↑(s.A.rd (65537 : Int) (3 : Int)) : Int) = (↑s.r : Int) / (1048576 : Int) } GY.lk).e z_1).s.k <
    l1 - ((Emb.mk { s : GS // GOk l1 s ∧ (↑(s.A.rd (65537 : Int) (3 : Int)) : Int) = (↑s.r : Int) / (1048576 : Int) } GY.lk).e z).s.k ∧ a0 = a0 ∧ l0 = l0 ∧ c0 = c0 ∧ a1 = a1 ∧ l1 = l1 ∧
    c1 = c1 ∧ (↑l1 : Int) = (↑l1 : Int) ∧ W = W ∧ (65537 : Int) = (65537 : Int) ∧ z_1.val.held = true ∧ (↑z_1.val.k : Int) = (↑z.val.k : Int) + (1 : Int) ∧ XO.ar z_1.val.A = XO.ar
    (z.val.A.write (0 : Int) (0 : Int) (seenInt IntKind.u64 W (addOpt a0 ((↑z.val.k : Int) % (↑l0 : Int)).toNat))).read.read.read ∧ ((((0 : Nat) = (0 : Nat) ∧ True) ∧ True) ∧ (0 : Nat)
    = (0 : Nat) ∧ (65537 : Int) = (65537 : Int) ∧ (0 : Int) = (0 : Int) ∧ (↑z_1.val.r : Int) = (↑z.val.r : Int) ∧ (0 : Int) = (0 : Int) ∧ True) ∧ True) ∧ (z.val.held = false →
    (((↑z.val.r : Int) != (0 : Int)) = true → (((↑((z.val.A.write (0 : Int) (0 : Int) (seenInt IntKind.u64 W (addOpt a0 ((↑z.val.k : Int) % (↑l0 : Int)).toNat))).read.rd (65537 : Int)
    (3 : Int)) : Int) == (↑z.val.r : Int) / (1048576 : Int)) = true → ((-9223372036854775808 : Int) ≤ (↑z.val.k : Int) + (1 : Int) ∧ (↑z.val.k : Int) + (1 : Int) ≤ (9223372036854775807
    : Int)) ∧ ∃ (z_1 : (Emb.mk { s : GS // GOk l1 s ∧ (↑(s.A.rd (65537 : Int) (3 : Int)) : Int) = (↑s.r : Int) / (1048576 : Int) } GY.lk).Z), l1 - ((Emb.mk { s : GS // GOk l1 s ∧
    (↑(s.A.rd (65537 : Int) (3 : Int)) : Int) = (↑s.r : Int) / (1048576 : Int) } GY.lk).e z_1).s.k < l1 - ((Emb.mk { s : GS // GOk l1 s ∧ (↑(s.A.rd (65537 : Int) (3 : Int)) : Int) =
    (↑s.r : Int) / (1048576 : Int) } GY.lk).e z).s.k ∧ a0 = a0 ∧ l0 = l0 ∧ c0 = c0 ∧ a1 = a1 ∧ l1 = l1 ∧ c1 = c1 ∧ (↑l1 : Int) = (↑l1 : Int) ∧ W = W ∧ (65537 : Int) = (65537 : Int) ∧
    z_1.val.held = ((↑((z.val.A.write (0 : Int) (0 : Int) (seenInt IntKind.u64 W (addOpt a0 ((↑z.val.k : Int) % (↑l0 : Int)).toNat))).rd (0 : Int) (0 : Int)) : Int) == (↑z.val.r : Int))
    ∧ (↑z_1.val.k : Int) = (↑z.val.k : Int) + (1 : Int) ∧ XO.ar z_1.val.A = XO.ar (z.val.A.write (0 : Int) (0 : Int) (seenInt IntKind.u64 W (addOpt a0 ((↑z.val.k : Int) % (↑l0 :
    Int)).toNat))).read.read.read ∧ ((((0 : Nat) = (0 : Nat) ∧ True) ∧ True) ∧ (0 : Nat) = (0 : Nat) ∧ (65537 : Int) = (65537 : Int) ∧ (0 : Int) = (0 : Int) ∧ (↑z_1.val.r : Int) =
    (↑z.val.r : Int) ∧ (0 : Int) = (0 : Int) ∧ True) ∧ True) ∧ (((↑((z.val.A.write (0 : Int) (0 : Int) (seenInt IntKind.u64 W (addOpt a0 ((↑z.val.k : Int) % (↑l0 :
    Int)).toNat))).read.rd (65537 : Int) (3 : Int)) : Int) == (↑z.val.r : Int) / (1048576 : Int)) = false → ((-9223372036854775808 : Int) ≤ (↑z.val.k : Int) + (1 : Int) ∧ (↑z.val.k :
    Int) + (1 : Int) ≤ (9223372036854775807 : Int)) ∧ ∃ (z_1 : (Emb.mk { s : GS // GOk l1 s ∧ (↑(s.A.rd (65537 : Int) (3 : Int)) : Int) = (↑s.r : Int) / (1048576 : Int) } GY.lk).Z), l1
    - ((Emb.mk { s : GS // GOk l1 s ∧ (↑(s.A.rd (65537 : Int) (3 : Int)) : Int) = (↑s.r : Int) / (1048576 : Int) } GY.lk).e z_1).s.k < l1 - ((Emb.mk { s : GS // GOk l1 s ∧ (↑(s.A.rd
    (65537 : Int) (3 : Int)) : Int) = (↑s.r : Int) / (1048576 : Int) } GY.lk).e z).s.k ∧ a0 = a0 ∧ l0 = l0 ∧ c0 = c0 ∧ a1 = a1 ∧ l1 = l1 ∧ c1 = c1 ∧ (↑l1 : Int) = (↑l1 : Int) ∧ W = W ∧
    (65537 : Int) = (65537 : Int) ∧ z_1.val.held = false ∧ (↑z_1.val.k : Int) = (↑z.val.k : Int) + (1 : Int) ∧ XO.ar z_1.val.A = XO.ar (z.val.A.write (0 : Int) (0 : Int) (seenInt
    IntKind.u64 W (addOpt a0 ((↑z.val.k : Int) % (↑l0 : Int)).toNat))).read.read.read ∧ ((((0 : Nat) = (0 : Nat) ∧ True) ∧ True) ∧ (0 : Nat) = (0 : Nat) ∧ (65537 : Int) = (65537 : Int)
    ∧ (0 : Int) = (0 : Int) ∧ (↑z_1.val.r : Int) = (↑z.val.r : Int) ∧ (0 : Int) = (0 : Int) ∧ True) ∧ True)) ∧ (((↑z.val.r : Int) != (0 : Int)) = false → ((-9223372036854775808 : Int) ≤
    (↑z.val.k : Int) + (1 : Int) ∧ (↑z.val.k : Int) + (1 : Int) ≤ (9223372036854775807 : Int)) ∧ ∃ (z_1 : (Emb.mk { s : GS // GOk l1 s ∧ (↑(s.A.rd (65537 : Int) (3 : Int)) : Int) =
    (↑s.r : Int) / (1048576 : Int) } GY.lk).Z), l1 - ((Emb.mk { s : GS // GOk l1 s ∧ (↑(s.A.rd (65537 : Int) (3 : Int)) : Int) = (↑s.r : Int) / (1048576 : Int) } GY.lk).e z_1).s.k < l1
    - ((Emb.mk { s : GS // GOk l1 s ∧ (↑(s.A.rd (65537 : Int) (3 : Int)) : Int) = (↑s.r : Int) / (1048576 : Int) } GY.lk).e z).s.k ∧ a0 = a0 ∧ l0 = l0 ∧ c0 = c0 ∧ a1 = a1 ∧ l1 = l1 ∧ c1
    = c1 ∧ (↑l1 : Int) = (↑l1 : Int) ∧ W = W ∧ (65537 : Int) = (65537 : Int) ∧ z_1.val.held = false ∧ (↑z_1.val.k : Int) = (↑z.val.k : Int) + (1 : Int) ∧ XO.ar z_1.val.A = XO.ar
    (z.val.A.write (0 : Int) (0 : Int) (seenInt IntKind.u64 W (addOpt a0 ((↑z.val.k : Int) % (↑l0 : Int)).toNat))).read.read.read ∧ ((((0 : Nat) = (0 : Nat) ∧ True) ∧ True) ∧ (0 : Nat)
    = (0 : Nat) ∧ (65537 : Int) = (65537 : Int) ∧ (0 : Int) = (0 : Int) ∧ (↑z_1.val.r : Int) = (↑z.val.r : Int) ∧ (0 : Int) = (0 : Int) ∧ True) ∧ True))) ∧ ((seenInt IntKind.u8 W
    (addOpt a1 (↑z.val.k : Int).toNat) % (3 : Int) == (0 : Int)) = false → ((↑z.val.r : Int) = (↑z.val.r : Int) ∧ W = W ∧ (z.val.A.Has (0 : Int) (0 : Int) ∧ (((↑(z.val.A.rd (0 : Int) (0
    : Int)) : Int) == (↑z.val.r : Int)) = true → z.val.A.read.Has (0 : Int) (0 : Int) ∧ z.val.A.read.read.Has (65537 : Int) (3 : Int) ∧ z.val.A.read.read.read.Has (65537 : Int) (4 :
    Int) ∧ (z.val.held = true → ((-9223372036854775808 : Int) ≤ (↑z.val.k : Int) + (1 : Int) ∧ (↑z.val.k : Int) + (1 : Int) ≤ (9223372036854775807 : Int)) ∧ ∃ (z_1 : (Emb.mk { s : GS //
    GOk l1 s ∧ (s.out = (1 : Int) → s.held = true ∨ (↑s.r : Int) / (1048576 : Int) = (0 : Int)) } GY.nn).Z), l1 - ((Emb.mk { s : GS // GOk l1 s ∧ (s.out = (1 : Int) → s.held = true ∨
    (↑s.r : Int) / (1048576 : Int) = (0 : Int)) } GY.nn).e z_1).s.k < l1 - ((Emb.mk { s : GS // GOk l1 s ∧ (↑(s.A.rd (65537 : Int) (3 : Int)) : Int) = (↑s.r : Int) / (1048576 : Int) }
    GY.lk).e z).s.k ∧ a0 = a0 ∧ l0 = l0 ∧ c0 = c0 ∧ a1 = a1 ∧ l1 = l1 ∧ c1 = c1 ∧ (↑l1 : Int) = (↑l1 : Int) ∧ W = W ∧ (65537 : Int) = (65537 : Int) ∧ z_1.val.held = true ∧ (↑z_1.val.k :
    Int) = (↑z.val.k : Int) + (1 : Int) ∧ XO.ar z_1.val.A = XO.ar z.val.A.read.read.read.read ∧ (Value.nilFunc = Value.nilFunc ∧ (0 : Nat) = (0 : Nat) ∧ (65537 : Int) = (65537 : Int) ∧
    (0 : Int) = (0 : Int) ∧ (↑z_1.val.r : Int) = (↑z.val.r : Int) ∧ z_1.val.out = (1 : Int) ∧ True) ∧ True) ∧ (z.val.held = false → (((↑z.val.r : Int) != (0 : Int)) = true →
    (((↑(z.val.A.read.read.rd (65537 : Int) (3 : Int)) : Int) == (↑z.val.r : Int) / (1048576 : Int)) = true → ((-9223372036854775808 : Int) ≤ (↑z.val.k : Int) + (1 : Int) ∧ (↑z.val.k :
    Int) + (1 : Int) ≤ (9223372036854775807 : Int)) ∧ ∃ (z_1 : (Emb.mk { s : GS // GOk l1 s ∧ (s.out = (1 : Int) → s.held = true ∨ (↑s.r : Int) / (1048576 : Int) = (0 : Int)) }
    GY.nn).Z), l1 - ((Emb.mk { s : GS // GOk l1 s ∧ (s.out = (1 : Int) → s.held = true ∨ (↑s.r : Int) / (1048576 : Int) = (0 : Int)) } GY.nn).e z_1).s.k < l1 - ((Emb.mk { s : GS // GOk
    l1 s ∧ (↑(s.A.rd (65537 : Int) (3 : Int)) : Int) = (↑s.r : Int) / (1048576 : Int) } GY.lk).e z).s.k ∧ a0 = a0 ∧ l0 = l0 ∧ c0 = c0 ∧ a1 = a1 ∧ l1 = l1 ∧ c1 = c1 ∧ (↑l1 : Int) = (↑l1
    : Int) ∧ W = W ∧ (65537 : Int) = (65537 : Int) ∧ z_1.val.held = ((↑(z.val.A.read.rd (0 : Int) (0 : Int)) : Int) == (↑z.val.r : Int)) ∧ (↑z_1.val.k : Int) = (↑z.val.k : Int) + (1 :
    Int) ∧ XO.ar z_1.val.A = XO.ar z.val.A.read.read.read.read ∧ (Value.nilFunc = Value.nilFunc ∧ (0 : Nat) = (0 : Nat) ∧ (65537 : Int) = (65537 : Int) ∧ (0 : Int) = (0 : Int) ∧
    (↑z_1.val.r : Int) = (↑z.val.r : Int) ∧ z_1.val.out = (1 : Int) ∧ True) ∧ True) ∧ (((↑(z.val.A.read.read.rd (65537 : Int) (3 : Int)) : Int) == (↑z.val.r : Int) / (1048576 : Int)) =
    false → ((-9223372036854775808 : Int) ≤ (↑z.val.k : Int) + (1 : Int) ∧ (↑z.val.k : Int) + (1 : Int) ≤ (9223372036854775807 : Int)) ∧ ∃ (z_1 : (Emb.mk { s : GS // GOk l1 s ∧ (s.out =
    (1 : Int) → s.held = true ∨ (↑s.r : Int) / (1048576 : Int) = (0 : Int)) } GY.nn).Z), l1 - ((Emb.mk { s : GS // GOk l1 s ∧ (s.out = (1 : Int) → s.held = true ∨ (↑s.r : Int) /
    (1048576 : Int) = (0 : Int)) } GY.nn).e z_1).s.k < l1 - ((Emb.mk { s : GS // GOk l1 s ∧ (↑(s.A.rd (65537 : Int) (3 : Int)) : Int) = (↑s.r : Int) / (1048576 : Int) } GY.lk).e z).s.k
    ∧ a0 = a0 ∧ l0 = l0 ∧ c0 = c0 ∧ a1 = a1 ∧ l1 = l1 ∧ c1 = c1 ∧ (↑l1 : Int) = (↑l1 : Int) ∧ W = W ∧ (65537 : Int) = (65537 : Int) ∧ z_1.val.held = false ∧ (↑z_1.val.k : Int) =
    (↑z.val.k : Int) + (1 : Int) ∧ XO.ar z_1.val.A = XO.ar z.val.A.read.read.read.read ∧ (Value.nilFunc = Value.nilFunc ∧ (0 : Nat) = (0 : Nat) ∧ (65537 : Int) = (65537 : Int) ∧ (0 :
    Int) = (0 : Int) ∧ (↑z_1.val.r : Int) = (↑z.val.r : Int) ∧ z_1.val.out = (1 : Int) ∧ True) ∧ True)) ∧ (((↑z.val.r : Int) != (0 : Int)) = false → ((-9223372036854775808 : Int) ≤
    (↑z.val.k : Int) + (1 : Int) ∧ (↑z.val.k : Int) + (1 : Int) ≤ (9223372036854775807 : Int)) ∧ ∃ (z_1 : (Emb.mk { s : GS // GOk l1 s ∧ (s.out = (1 : Int) → s.held = true ∨ (↑s.r :
    Int) / (1048576 : Int) = (0 : Int)) } GY.nn).Z), l1 - ((Emb.mk { s : GS // GOk l1 s ∧ (s.out = (1 : Int) → s.held = true ∨ (↑s.r : Int) / (1048576 : Int) = (0 : Int)) } GY.nn).e
    z_1).s.k < l1 - ((Emb.mk { s : GS // GOk l1 s ∧ (↑(s.A.rd (65537 : Int) (3 : Int)) : Int) = (↑s.r : Int) / (1048576 : Int) } GY.lk).e z).s.k ∧ a0 = a0 ∧ l0 = l0 ∧ c0 = c0 ∧ a1 = a1
    ∧ l1 = l1 ∧ c1 = c1 ∧ (↑l1 : Int) = (↑l1 : Int) ∧ W = W ∧ (65537 : Int) = (65537 : Int) ∧ z_1.val.held = false ∧ (↑z_1.val.k : Int) = (↑z.val.k : Int) + (1 : Int) ∧ XO.ar z_1.val.A
    = XO.ar z.val.A.read.read.read.read ∧ (Value.nilFunc = Value.nilFunc ∧ (0 : Nat) = (0 : Nat) ∧ (65537 : Int) = (65537 : Int) ∧ (0 : Int) = (0 : Int) ∧ (↑z_1.val.r : Int) = (↑z.val.r
    : Int) ∧ z_1.val.out = (1 : Int) ∧ True) ∧ True))) ∧ (((↑(z.val.A.rd (0 : Int) (0 : Int)) : Int) == (↑z.val.r : Int)) = false → z.val.A.read.Has (0 : Int) (0 : Int) ∧
    z.val.A.read.read.Has (65537 : Int) (3 : Int) ∧ z.val.A.read.read.read.Has (65537 : Int) (4 : Int) ∧ (z.val.held = true → ((-9223372036854775808 : Int) ≤ (↑z.val.k : Int) + (1 :
    Int) ∧ (↑z.val.k : Int) + (1 : Int) ≤ (9223372036854775807 : Int)) ∧ ∃ (z_1 : (Emb.mk { s : GS // GOk l1 s ∧ (s.out = (1 : Int) → s.held = true ∨ (↑s.r : Int) / (1048576 : Int) = (0
    : Int)) } GY.nn).Z), l1 - ((Emb.mk { s : GS // GOk l1 s ∧ (s.out = (1 : Int) → s.held = true ∨ (↑s.r : Int) / (1048576 : Int) = (0 : Int)) } GY.nn).e z_1).s.k < l1 - ((Emb.mk { s :
    GS // GOk l1 s ∧ (↑(s.A.rd (65537 : Int) (3 : Int)) : Int) = (↑s.r : Int) / (1048576 : Int) } GY.lk).e z).s.k ∧ a0 = a0 ∧ l0 = l0 ∧ c0 = c0 ∧ a1 = a1 ∧ l1 = l1 ∧ c1 = c1 ∧ (↑l1 :
    Int) = (↑l1 : Int) ∧ W = W ∧ (65537 : Int) = (65537 : Int) ∧ z_1.val.held = true ∧ (↑z_1.val.k : Int) = (↑z.val.k : Int) + (1 : Int) ∧ XO.ar z_1.val.A = XO.ar
    z.val.A.read.read.read.read ∧ (Value.nilFunc = Value.nilFunc ∧ (0 : Nat) = (0 : Nat) ∧ (65537 : Int) = (65537 : Int) ∧ (0 : Int) = (0 : Int) ∧ (↑z_1.val.r : Int) = (↑z.val.r : Int)
    ∧ z_1.val.out = (2 : Int) ∧ True) ∧ True) ∧ (z.val.held = false → (((↑z.val.r : Int) != (0 : Int)) = true → (((↑(z.val.A.read.read.rd (65537 : Int) (3 : Int)) : Int) == (↑z.val.r :
    Int) / (1048576 : Int)) = true → ((-9223372036854775808 : Int) ≤ (↑z.val.k : Int) + (1 : Int) ∧ (↑z.val.k : Int) + (1 : Int) ≤ (9223372036854775807 : Int)) ∧ ∃ (z_1 : (Emb.mk { s :
    GS // GOk l1 s ∧ (s.out = (1 : Int) → s.held = true ∨ (↑s.r : Int) / (1048576 : Int) = (0 : Int)) } GY.nn).Z), l1 - ((Emb.mk { s : GS // GOk l1 s ∧ (s.out = (1 : Int) → s.held =
    true ∨ (↑s.r : Int) / (1048576 : Int) = (0 : Int)) } GY.nn).e z_1).s.k < l1 - ((Emb.mk { s : GS // GOk l1 s ∧ (↑(s.A.rd (65537 : Int) (3 : Int)) : Int) = (↑s.r : Int) / (1048576 :
    Int) } GY.lk).e z).s.k ∧ a0 = a0 ∧ l0 = l0 ∧ c0 = c0 ∧ a1 = a1 ∧ l1 = l1 ∧ c1 = c1 ∧ (↑l1 : Int) = (↑l1 : Int) ∧ W = W ∧ (65537 : Int) = (65537 : Int) ∧ z_1.val.held =
    ((↑(z.val.A.read.rd (0 : Int) (0 : Int)) : Int) == (↑z.val.r : Int)) ∧ (↑z_1.val.k : Int) = (↑z.val.k : Int) + (1 : Int) ∧ XO.ar z_1.val.A = XO.ar z.val.A.read.read.read.read ∧
    (Value.nilFunc = Value.nilFunc ∧ (0 : Nat) = (0 : Nat) ∧ (65537 : Int) = (65537 : Int) ∧ (0 : Int) = (0 : Int) ∧ (↑z_1.val.r : Int) = (↑z.val.r : Int) ∧ z_1.val.out = (2 : Int) ∧
    True) ∧ True) ∧ (((↑(z.val.A.read.read.rd (65537 : Int) (3 : Int)) : Int) == (↑z.val.r : Int) / (1048576 : Int)) = false → ((-9223372036854775808 : Int) ≤ (↑z.val.k : Int) + (1 :
    Int) ∧ (↑z.val.k : Int) + (1 : Int) ≤ (9223372036854775807 : Int)) ∧ ∃ (z_1 : (Emb.mk { s : GS // GOk l1 s ∧ (s.out = (1 : Int) → s.held = true ∨ (↑s.r : Int) / (1048576 : Int) = (0
    : Int)) } GY.nn).Z), l1 - ((Emb.mk { s : GS // GOk l1 s ∧ (s.out = (1 : Int) → s.held = true ∨ (↑s.r : Int) / (1048576 : Int) = (0 : Int)) } GY.nn).e z_1).s.k < l1 - ((Emb.mk { s :
    GS // GOk l1 s ∧ (↑(s.A.rd (65537 : Int) (3 : Int)) : Int) = (↑s.r : Int) / (1048576 : Int) } GY.lk).e z).s.k ∧ a0 = a0 ∧ l0 = l0 ∧ c0 = c0 ∧ a1 = a1 ∧ l1 = l1 ∧ c1 = c1 ∧ (↑l1 :
    Int) = (↑l1 : Int) ∧ W = W ∧ (65537 : Int) = (65537 : Int) ∧ z_1.val.held = false ∧ (↑z_1.val.k : Int) = (↑z.val.k : Int) + (1 : Int) ∧ XO.ar z_1.val.A = XO.ar
    z.val.A.read.read.read.read ∧ (Value.nilFunc = Value.nilFunc ∧ (0 : Nat) = (0 : Nat) ∧ (65537 : Int) = (65537 : Int) ∧ (0 : Int) = (0 : Int) ∧ (↑z_1.val.r : Int) = (↑z.val.r : Int)
    ∧ z_1.val.out = (2 : Int) ∧ True) ∧ True)) ∧ (((↑z.val.r : Int) != (0 : Int)) = false → ((-9223372036854775808 : Int) ≤ (↑z.val.k : Int) + (1 : Int) ∧ (↑z.val.k : Int) + (1 : Int) ≤
    (9223372036854775807 : Int)) ∧ ∃ (z_1 : (Emb.mk { s : GS // GOk l1 s ∧ (s.out = (1 : Int) → s.held = true ∨ (↑s.r : Int) / (1048576 : Int) = (0 : Int)) } GY.nn).Z), l1 - ((Emb.mk {
    s : GS // GOk l1 s ∧ (s.out = (1 : Int) → s.held = true ∨ (↑s.r : Int) / (1048576 : Int) = (0 : Int)) } GY.nn).e z_1).s.k < l1 - ((Emb.mk { s : GS // GOk l1 s ∧ (↑(s.A.rd (65537 :
    Int) (3 : Int)) : Int) = (↑s.r : Int) / (1048576 : Int) } GY.lk).e z).s.k ∧ a0 = a0 ∧ l0 = l0 ∧ c0 = c0 ∧ a1 = a1 ∧ l1 = l1 ∧ c1 = c1 ∧ (↑l1 : Int) = (↑l1 : Int) ∧ W = W ∧ (65537 :
    Int) = (65537 : Int) ∧ z_1.val.held = false ∧ (↑z_1.val.k : Int) = (↑z.val.k : Int) + (1 : Int) ∧ XO.ar z_1.val.A = XO.ar z.val.A.read.read.read.read ∧ (Value.nilFunc =
    Value.nilFunc ∧ (0 : Nat) = (0 : Nat) ∧ (65537 : Int) = (65537 : Int) ∧ (0 : Int) = (0 : Int) ∧ (↑z_1.val.r : Int) = (↑z.val.r : Int) ∧ z_1.val.out = (2 : Int) ∧ True) ∧ True)))) ∧
    True) ∧ True)) ∧ (decide ((↑z.val.k : Int) < (↑l1 : Int)) = false → true = true ∧ some W = some W)) ∧ (∀ (z : (Emb.mk { s : GS // GOk l1 s ∧ (s.out = (1 : Int) → s.held = true ∨
    (↑s.r : Int) / (1048576 : Int) = (0 : Int)) } GY.nn).Z) (ρ : Nat → Value), (decide ((↑z.val.k : Int) < (↑l1 : Int)) = true → ((0 : Int) ≤ (↑z.val.k : Int) ∧ (↑z.val.k : Int) < (↑l1
    : Int) ∧ a1.isSome = true) ∧ Seen IntKind.u8 W (addOpt a1 (↑z.val.k : Int).toNat) ∧ ((seenInt IntKind.u8 W (addOpt a1 (↑z.val.k : Int).toNat) % (3 : Int) == (0 : Int)) = true → ((0
    : Int) ≤ (↑z.val.k : Int) ∧ (0 : Int) < (↑l0 : Int)) ∧ ((0 : Int) ≤ (↑z.val.k : Int) % (↑l0 : Int) ∧ (↑z.val.k : Int) % (↑l0 : Int) < (↑l0 : Int) ∧ a0.isSome = true) ∧ Seen
    IntKind.u64 W (addOpt a0 ((↑z.val.k : Int) % (↑l0 : Int)).toNat) ∧ z.val.A.Has (0 : Int) (0 : Int) ∧ ((0 : Int) ≤ seenInt IntKind.u64 W (addOpt a0 ((↑z.val.k : Int) % (↑l0 :
    Int)).toNat) ∧ seenInt IntKind.u64 W (addOpt a0 ((↑z.val.k : Int) % (↑l0 : Int)).toNat) < (18446744073709551616 : Int)) ∧ (z.val.A.write (0 : Int) (0 : Int) (seenInt IntKind.u64 W
    (addOpt a0 ((↑z.val.k : Int) % (↑l0 : Int)).toNat))).Has (0 : Int) (0 : Int) ∧ (z.val.A.write (0 : Int) (0 : Int) (seenInt IntKind.u64 W (addOpt a0 ((↑z.val.k : Int) % (↑l0 :
    Int)).toNat))).read.Has (65537 : Int) (3 : Int) ∧ (z.val.A.write (0 : Int) (0 : Int) (seenInt IntKind.u64 W (addOpt a0 ((↑z.val.k : Int) % (↑l0 : Int)).toNat))).read.read.Has (65537
    : Int) (4 : Int) ∧ (z.val.held = true → ((-9223372036854775808 : Int) ≤ (↑z.val.k : Int) + (1 : Int) ∧ (↑z.val.k : Int) + (1 : Int) ≤ (9223372036854775807 : Int)) ∧ ∃ (z_1 : (Emb.mk
    { s : GS // GOk l1 s ∧ (s.out = (1 : Int) → s.held = true ∨ (↑s.r : Int) / (1048576 : Int) = (0 : Int)) } GY.nn).Z), l1 - ((Emb.mk { s : GS // GOk l1 s ∧ (s.out = (1 : Int) → s.held
    = true ∨ (↑s.r : Int) / (1048576 : Int) = (0 : Int)) } GY.nn).e z_1).s.k < l1 - ((Emb.mk { s : GS // GOk l1 s ∧ (s.out = (1 : Int) → s.held = true ∨ (↑s.r : Int) / (1048576 : Int) =
    (0 : Int)) } GY.nn).e z).s.k ∧ a0 = a0 ∧ l0 = l0 ∧ c0 = c0 ∧ a1 = a1 ∧ l1 = l1 ∧ c1 = c1 ∧ (↑l1 : Int) = (↑l1 : Int) ∧ W = W ∧ (65537 : Int) = (65537 : Int) ∧ z_1.val.held = true ∧
    (↑z_1.val.k : Int) = (↑z.val.k : Int) + (1 : Int) ∧ XO.ar z_1.val.A = XO.ar (z.val.A.write (0 : Int) (0 : Int) (seenInt IntKind.u64 W (addOpt a0 ((↑z.val.k : Int) % (↑l0 :
    Int)).toNat))).read.read.read ∧ (Value.nilFunc = Value.nilFunc ∧ (0 : Nat) = (0 : Nat) ∧ (65537 : Int) = (65537 : Int) ∧ (0 : Int) = (0 : Int) ∧ (↑z_1.val.r : Int) = (↑z.val.r :
    Int) ∧ z_1.val.out = z.val.out ∧ True) ∧ True) ∧ (z.val.held = false → (((↑z.val.r : Int) != (0 : Int)) = true → (((↑((z.val.A.write (0 : Int) (0 : Int) (seenInt IntKind.u64 W
    (addOpt a0 ((↑z.val.k : Int) % (↑l0 : Int)).toNat))).read.rd (65537 : Int) (3 : Int)) : Int) == (↑z.val.r : Int) / (1048576 : Int)) = true → ((-9223372036854775808 : Int) ≤
    (↑z.val.k : Int) + (1 : Int) ∧ (↑z.val.k : Int) + (1 : Int) ≤ (9223372036854775807 : Int)) ∧ ∃ (z_1 : (Emb.mk { s : GS // GOk l1 s ∧ (s.out = (1 : Int) → s.held = true ∨ (↑s.r :
    Int) / (1048576 : Int) = (0 : Int)) } GY.nn).Z), l1 - ((Emb.mk { s : GS // GOk l1 s ∧ (s.out = (1 : Int) → s.held = true ∨ (↑s.r : Int) / (1048576 : Int) = (0 : Int)) } GY.nn).e
    z_1).s.k < l1 - ((Emb.mk { s : GS // GOk l1 s ∧ (s.out = (1 : Int) → s.held = true ∨ (↑s.r : Int) / (1048576 : Int) = (0 : Int)) } GY.nn).e z).s.k ∧ a0 = a0 ∧ l0 = l0 ∧ c0 = c0 ∧ a1
    = a1 ∧ l1 = l1 ∧ c1 = c1 ∧ (↑l1 : Int) = (↑l1 : Int) ∧ W = W ∧ (65537 : Int) = (65537 : Int) ∧ z_1.val.held = ((↑((z.val.A.write (0 : Int) (0 : Int) (seenInt IntKind.u64 W (addOpt
    a0 ((↑z.val.k : Int) % (↑l0 : Int)).toNat))).rd (0 : Int) (0 : Int)) : Int) == (↑z.val.r : Int)) ∧ (↑z_1.val.k : Int) = (↑z.val.k : Int) + (1 : Int) ∧ XO.ar z_1.val.A = XO.ar
    (z.val.A.write (0 : Int) (0 : Int) (seenInt IntKind.u64 W (addOpt a0 ((↑z.val.k : Int) % (↑l0 : Int)).toNat))).read.read.read ∧ (Value.nilFunc = Value.nilFunc ∧ (0 : Nat) = (0 :
    Nat) ∧ (65537 : Int) = (65537 : Int) ∧ (0 : Int) = (0 : Int) ∧ (↑z_1.val.r : Int) = (↑z.val.r : Int) ∧ z_1.val.out = z.val.out ∧ True) ∧ True) ∧ (((↑((z.val.A.write (0 : Int) (0 :
    Int) (seenInt IntKind.u64 W (addOpt a0 ((↑z.val.k : Int) % (↑l0 : Int)).toNat))).read.rd (65537 : Int) (3 : Int)) : Int) == (↑z.val.r : Int) / (1048576 : Int)) = false →
    ((-9223372036854775808 : Int) ≤ (↑z.val.k : Int) + (1 : Int) ∧ (↑z.val.k : Int) + (1 : Int) ≤ (9223372036854775807 : Int)) ∧ ∃ (z_1 : (Emb.mk { s : GS // GOk l1 s ∧ (s.out = (1 :
    Int) → s.held = true ∨ (↑s.r : Int) / (1048576 : Int) = (0 : Int)) } GY.nn).Z), l1 - ((Emb.mk { s : GS // GOk l1 s ∧ (s.out = (1 : Int) → s.held = true ∨ (↑s.r : Int) / (1048576 :
    Int) = (0 : Int)) } GY.nn).e z_1).s.k < l1 - ((Emb.mk { s : GS // GOk l1 s ∧ (s.out = (1 : Int) → s.held = true ∨ (↑s.r : Int) / (1048576 : Int) = (0 : Int)) } GY.nn).e z).s.k ∧ a0
    = a0 ∧ l0 = l0 ∧ c0 = c0 ∧ a1 = a1 ∧ l1 = l1 ∧ c1 = c1 ∧ (↑l1 : Int) = (↑l1 : Int) ∧ W = W ∧ (65537 : Int) = (65537 : Int) ∧ z_1.val.held = false ∧ (↑z_1.val.k : Int) = (↑z.val.k :
    Int) + (1 : Int) ∧ XO.ar z_1.val.A = XO.ar (z.val.A.write (0 : Int) (0 : Int) (seenInt IntKind.u64 W (addOpt a0 ((↑z.val.k : Int) % (↑l0 : Int)).toNat))).read.read.read ∧
    (Value.nilFunc = Value.nilFunc ∧ (0 : Nat) = (0 : Nat) ∧ (65537 : Int) = (65537 : Int) ∧ (0 : Int) = (0 : Int) ∧ (↑z_1.val.r : Int) = (↑z.val.r : Int) ∧ z_1.val.out = z.val.out ∧
    True) ∧ True)) ∧ (((↑z.val.r : Int) != (0 : Int)) = false → ((-9223372036854775808 : Int) ≤ (↑z.val.k : Int) + (1 : Int) ∧ (↑z.val.k : Int) + (1 : Int) ≤ (9223372036854775807 :
    Int)) ∧ ∃ (z_1 : (Emb.mk { s : GS // GOk l1 s ∧ (s.out = (1 : Int) → s.held = true ∨ (↑s.r : Int) / (1048576 : Int) = (0 : Int)) } GY.nn).Z), l1 - ((Emb.mk { s : GS // GOk l1 s ∧
    (s.out = (1 : Int) → s.held = true ∨ (↑s.r : Int) / (1048576 : Int) = (0 : Int)) } GY.nn).e z_1).s.k < l1 - ((Emb.mk { s : GS // GOk l1 s ∧ (s.out = (1 : Int) → s.held = true ∨
    (↑s.r : Int) / (1048576 : Int) = (0 : Int)) } GY.nn).e z).s.k ∧ a0 = a0 ∧ l0 = l0 ∧ c0 = c0 ∧ a1 = a1 ∧ l1 = l1 ∧ c1 = c1 ∧ (↑l1 : Int) = (↑l1 : Int) ∧ W = W ∧ (65537 : Int) =
    (65537 : Int) ∧ z_1.val.held = false ∧ (↑z_1.val.k : Int) = (↑z.val.k : Int) + (1 : Int) ∧ XO.ar z_1.val.A = XO.ar (z.val.A.write (0 : Int) (0 : Int) (seenInt IntKind.u64 W (addOpt
    a0 ((↑z.val.k : Int) % (↑l0 : Int)).toNat))).read.read.read ∧ (Value.nilFunc = Value.nilFunc ∧ (0 : Nat) = (0 : Nat) ∧ (65537 : Int) = (65537 : Int) ∧ (0 : Int) = (0 : Int) ∧
    (↑z_1.val.r : Int) = (↑z.val.r : Int) ∧ z_1.val.out = z.val.out ∧ True) ∧ True))) ∧ ((seenInt IntKind.u8 W (addOpt a1 (↑z.val.k : Int).toNat) % (3 : Int) == (0 : Int)) = false →
    z.val.A.Has (0 : Int) (0 : Int) ∧ z.val.A.read.Has (65537 : Int) (3 : Int) ∧ z.val.A.read.read.Has (65537 : Int) (4 : Int) ∧ (z.val.held = true → ((-9223372036854775808 : Int) ≤
    (↑z.val.k : Int) + (1 : Int) ∧ (↑z.val.k : Int) + (1 : Int) ≤ (9223372036854775807 : Int)) ∧ ∃ (z_1 : (Emb.mk { s : GS // GOk l1 s ∧ (s.out = (1 : Int) → s.held = true ∨ (↑s.r :
    Int) / (1048576 : Int) = (0 : Int)) } GY.nn).Z), l1 - ((Emb.mk { s : GS // GOk l1 s ∧ (s.out = (1 : Int) → s.held = true ∨ (↑s.r : Int) / (1048576 : Int) = (0 : Int)) } GY.nn).e
    z_1).s.k < l1 - ((Emb.mk { s : GS // GOk l1 s ∧ (s.out = (1 : Int) → s.held = true ∨ (↑s.r : Int) / (1048576 : Int) = (0 : Int)) } GY.nn).e z).s.k ∧ a0 = a0 ∧ l0 = l0 ∧ c0 = c0 ∧ a1
    = a1 ∧ l1 = l1 ∧ c1 = c1 ∧ (↑l1 : Int) = (↑l1 : Int) ∧ W = W ∧ (65537 : Int) = (65537 : Int) ∧ z_1.val.held = true ∧ (↑z_1.val.k : Int) = (↑z.val.k : Int) + (1 : Int) ∧ XO.ar
    z_1.val.A = XO.ar z.val.A.read.read.read ∧ (Value.nilFunc = Value.nilFunc ∧ (0 : Nat) = (0 : Nat) ∧ (65537 : Int) = (65537 : Int) ∧ (0 : Int) = (0 : Int) ∧ (↑z_1.val.r : Int) =
    (↑z.val.r : Int) ∧ z_1.val.out = z.val.out ∧ True) ∧ True) ∧ (z.val.held = false → (((↑z.val.r : Int) != (0 : Int)) = true → (((↑(z.val.A.read.rd (65537 : Int) (3 : Int)) : Int) ==
    (↑z.val.r : Int) / (1048576 : Int)) = true → ((-9223372036854775808 : Int) ≤ (↑z.val.k : Int) + (1 : Int) ∧ (↑z.val.k : Int) + (1 : Int) ≤ (9223372036854775807 : Int)) ∧ ∃ (z_1 :
    (Emb.mk { s : GS // GOk l1 s ∧ (s.out = (1 : Int) → s.held = true ∨ (↑s.r : Int) / (1048576 : Int) = (0 : Int)) } GY.nn).Z), l1 - ((Emb.mk { s : GS // GOk l1 s ∧ (s.out = (1 : Int)
    → s.held = true ∨ (↑s.r : Int) / (1048576 : Int) = (0 : Int)) } GY.nn).e z_1).s.k < l1 - ((Emb.mk { s : GS // GOk l1 s ∧ (s.out = (1 : Int) → s.held = true ∨ (↑s.r : Int) / (1048576
    : Int) = (0 : Int)) } GY.nn).e z).s.k ∧ a0 = a0 ∧ l0 = l0 ∧ c0 = c0 ∧ a1 = a1 ∧ l1 = l1 ∧ c1 = c1 ∧ (↑l1 : Int) = (↑l1 : Int) ∧ W = W ∧ (65537 : Int) = (65537 : Int) ∧ z_1.val.held
    = ((↑(z.val.A.rd (0 : Int) (0 : Int)) : Int) == (↑z.val.r : Int)) ∧ (↑z_1.val.k : Int) = (↑z.val.k : Int) + (1 : Int) ∧ XO.ar z_1.val.A = XO.ar z.val.A.read.read.read ∧
    (Value.nilFunc = Value.nilFunc ∧ (0 : Nat) = (0 : Nat) ∧ (65537 : Int) = (65537 : Int) ∧ (0 : Int) = (0 : Int) ∧ (↑z_1.val.r : Int) = (↑z.val.r : Int) ∧ z_1.val.out = z.val.out ∧
    True) ∧ True) ∧ (((↑(z.val.A.read.rd (65537 : Int) (3 : Int)) : Int) == (↑z.val.r : Int) / (1048576 : Int)) = false → ((-9223372036854775808 : Int) ≤ (↑z.val.k : Int) + (1 : Int) ∧
    (↑z.val.k : Int) + (1 : Int) ≤ (9223372036854775807 : Int)) ∧ ∃ (z_1 : (Emb.mk { s : GS // GOk l1 s ∧ (s.out = (1 : Int) → s.held = true ∨ (↑s.r : Int) / (1048576 : Int) = (0 :
    Int)) } GY.nn).Z), l1 - ((Emb.mk { s : GS // GOk l1 s ∧ (s.out = (1 : Int) → s.held = true ∨ (↑s.r : Int) / (1048576 : Int) = (0 : Int)) } GY.nn).e z_1).s.k < l1 - ((Emb.mk { s : GS
    // GOk l1 s ∧ (s.out = (1 : Int) → s.held = true ∨ (↑s.r : Int) / (1048576 : Int) = (0 : Int)) } GY.nn).e z).s.k ∧ a0 = a0 ∧ l0 = l0 ∧ c0 = c0 ∧ a1 = a1 ∧ l1 = l1 ∧ c1 = c1 ∧ (↑l1 :
    Int) = (↑l1 : Int) ∧ W = W ∧ (65537 : Int) = (65537 : Int) ∧ z_1.val.held = false ∧ (↑z_1.val.k : Int) = (↑z.val.k : Int) + (1 : Int) ∧ XO.ar z_1.val.A = XO.ar
    z.val.A.read.read.read ∧ (Value.nilFunc = Value.nilFunc ∧ (0 : Nat) = (0 : Nat) ∧ (65537 : Int) = (65537 : Int) ∧ (0 : Int) = (0 : Int) ∧ (↑z_1.val.r : Int) = (↑z.val.r : Int) ∧
    z_1.val.out = z.val.out ∧ True) ∧ True)) ∧ (((↑z.val.r : Int) != (0 : Int)) = false → ((-9223372036854775808 : Int) ≤ (↑z.val.k : Int) + (1 : Int) ∧ (↑z.val.k : Int) + (1 : Int) ≤
    (9223372036854775807 : Int)) ∧ ∃ (z_1 : (Emb.mk { s : GS // GOk l1 s ∧ (s.out = (1 : Int) → s.held = true ∨ (↑s.r : Int) / (1048576 : Int) = (0 : Int)) } GY.nn).Z), l1 - ((Emb.mk {
    s : GS // GOk l1 s ∧ (s.out = (1 : Int) → s.held = true ∨ (↑s.r : Int) / (1048576 : Int) = (0 : Int)) } GY.nn).e z_1).s.k < l1 - ((Emb.mk { s : GS // GOk l1 s ∧ (s.out = (1 : Int) →
    s.held = true ∨ (↑s.r : Int) / (1048576 : Int) = (0 : Int)) } GY.nn).e z).s.k ∧ a0 = a0 ∧ l0 = l0 ∧ c0 = c0 ∧ a1 = a1 ∧ l1 = l1 ∧ c1 = c1 ∧ (↑l1 : Int) = (↑l1 : Int) ∧ W = W ∧
    (65537 : Int) = (65537 : Int) ∧ z_1.val.held = false ∧ (↑z_1.val.k : Int) = (↑z.val.k : Int) + (1 : Int) ∧ XO.ar z_1.val.A = XO.ar z.val.A.read.read.read ∧ (Value.nilFunc =
    Value.nilFunc ∧ (0 : Nat) = (0 : Nat) ∧ (65537 : Int) = (65537 : Int) ∧ (0 : Int) = (0 : Int) ∧ (↑z_1.val.r : Int) = (↑z.val.r : Int) ∧ z_1.val.out = z.val.out ∧ True) ∧ True)))) ∧
    (decide ((↑z.val.k : Int) < (↑l1 : Int)) = false → ((z.val.out != (1 : Int)) = true → true = true ∧ some W = some W) ∧ ((z.val.out != (1 : Int)) = false → (z.val.held = true → true
    = true ∧ some W = some W) ∧ (z.val.held = false → ((↑z.val.r : Int) / (1048576 : Int) == (0 : Int)) = true ∧ some W = some W)))) ∧ True) ∧ True) ∧ True)))) := by
  kernel_rfl
theorem holdG (W : World) (a0 a1 : Option Addr) (l0 c0 l1 c1 : Nat) (hs0 : 0 < l0 → a0.isSome = true) (hx0 : ∀ j, j < l0 → Seen .u64 W (addOpt a0 j)) (hs1 : 0 < l1 → a1.isSome = true) (hx1 : ∀ j, j < l1 → Seen .u8 W (addOpt a1 j)) : Run (callN Try.prog tblG (fun _ _ => false) 100 20 4 [.c (.sliv a0 false l0 c0), .c (.sliv a1 false l1 c1), .c (.boo true false)] ⟨[(0, .seen W)], 1⟩ (scriptG l1) (fun v m _ => retSeen W v m)) := by
  constructor
  rw [holdG_vc]
  refine ⟨fun _ => ⟨rfl, rfl⟩, fun hl1 => ⟨fun _ => ⟨rfl, rfl⟩, fun hl0 => ⟨fun _ => ⟨rfl, rfl⟩, fun hl0' v cap z' ad ln cp hS hcap => ?_⟩⟩⟩
  have hp1 : l1 ≤ 100 := by have := of_decide_eq_false hl1; omega
  have hp0 : 0 < l0 := by
    rcases Nat.eq_zero_or_pos l0 with e | e
    · subst e; exact absurd hl0 (by decide)
    · exact e
  have hmod : ∀ k : Nat, ((k : Int) % (l0 : Int)).toNat < l0 := fun k => by
    have := Int.emod_lt_of_pos (k : Int) (show (0 : Int) < (l0 : Int) by omega)
    have := Int.emod_nonneg (k : Int) (show (l0 : Int) ≠ 0 by omega)
    omega
  repeat' first
    | with_reducible apply And.intro
    | with_reducible exact trivial
    | with_reducible exact fun _ h => h
    | exact embsG_cover
    | (intro z; have hz : GOk l1 z.1 := z.2)
    | (intro z; have hz : GOk l1 z.1 := z.2.1; have hz2 := z.2.2)
    | (intro hk; have hlt : (z.1.k : Int) < (l1 : Int) := of_decide_eq_true hk; have hltn : z.1.k < l1 := by omega)
    | intro _
    | with_reducible exact Eq.refl _
  any_goals first
    | apply Exists.intro (Subtype.mk (GS.mk (z.1.k + 1) _ _ _ _) _)
    | apply Exists.intro (Subtype.mk (GS.mk 0 _ _ _ _) _)
  repeat' first
    | with_reducible apply And.intro
    | with_reducible exact trivial
    | with_reducible exact fun _ h => h
    | intro _
    | with_reducible exact Eq.refl _
  any_goals first
    | exact (0 : Nat)
    | exact (0 : Int)
  repeat' first
    | omega
    | with_reducible exact has_fixed0 _
    | with_reducible exact seen64_0 _ _
    | with_reducible exact seen64_1 _ _
    | with_reducible exact div20 hz.r
    | with_reducible exact HInv.start _ _ (seen64_0 _ _) (seen64_1 _ _)
    | with_reducible exact hz.inv
    | with_reducible exact hz.r
    | with_reducible exact hz.inv.tw
    | with_reducible exact hz.inv.h3
    | with_reducible apply HInv.rd
    | with_reducible apply HInv.root
    | with_reducible apply HInv.hold
    | with_reducible apply GOk.next hz hlt
    | with_reducible apply GOk.zero
    | with_reducible apply And.intro
    | exact Nat.sub_lt_sub_left hltn (Nat.lt_succ_self z.1.k)
    | with_reducible exact hx0 _ ‹_›
    | with_reducible exact hx1 _ ‹_›
    | exact hx0 _ hp0
    | exact hx0 _ (hmod _)
    | exact hx1 _ hltn
    | exact hs0 hp0
    | exact hs1 (by omega)
    | exact hs0 ‹_›
    | exact hs1 ‹_›
    | (with_reducible show (segA [v]).births < 268435455; exact of_decide_eq_true (by kernel_rfl))
    | (with_reducible show (segA [v]).used + 2 ≤ (segA [v]).cap; exact of_decide_eq_true (by kernel_rfl))
    | (show ((z.1.k + 1 : Nat) : Int) = (z.1.k : Int) + 1; rfl)
    | (show ((0 : Nat) : Int) = 0; rfl)
    | exact Int.emod_lt_of_pos _ (by omega)
    | with_reducible exact Or.inl rfl
    | exact Or.inl ‹_›
    | exact absurd ‹(2 : Int) = 1› (by decide)
    | exact Or.elim (hz2 ‹_›) (fun e => absurd (e.symm.trans ‹z.1.held = false›) (by decide)) Or.inr
    | with_reducible exact rd3_rootR hz2
    | exact Or.elim (hz2 (bne_eq_false_iff_eq.1 ‹(z.1.out != 1) = false›)) (fun e => absurd (e.symm.trans ‹z.1.held = false›) (by decide)) (fun e => beq_iff_eq.2 e)
    | with_reducible exact rd3_holdR hz.inv _
    | (refine Or.inr ?_; have h := bne_eq_false_iff_eq.1 ‹((z.1.r : Int) != 0) = false›; show (z.1.r : Int) / 1048576 = 0; omega)
    | exact absurd hz2 (beq_eq_false_iff_ne.1 ‹_›)
    | with_reducible apply HInv.h3
    | with_reducible apply HInv.h4
end Go.Proofs.Ytgiakcepgbpchaa
