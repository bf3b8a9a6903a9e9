/- HoldWins, of fetches: the walk by the executor; conditions: the slices that are handed in are read as numbers. -/
import Derived.Test.YtgiakcepgbpchaaHoldV
import Derived.Test.YtgiakcepgbpchaaGate2
namespace Go.Proofs.Ytgiakcepgbpchaa
open Go
set_option maxRecDepth 1000000
set_option maxHeartbeats 0
def scriptV (l : Nat) (r : Int) : Scr XE := .both .nil (.both .nil (.both .nil (loopF l r)))
/-- What the executor leaves to be shown, written out. -/
theorem holdF_vc (W : World) (a0 a1 : Option Addr) (l0 c0 l1 c1 : Nat) (hs0 : 0 < l0 → a0.isSome = true) (hx0 : ∀ j, j < l0 → Seen .u64 W (addOpt a0 j)) (hs1 : 0 < l1 → a1.isSome = true) (hx1 : ∀ j, j < l1 → Seen .u8 W (addOpt a1 j)) : (callN Try.prog tblG (fun _ _ => false) 100 20 4 [.c (.sliv a0 false l0 c0), .c (.sliv a1 false l1 c1), .c (.boo true true)] ⟨[(0, .seen W)], 1⟩ (scriptV l1 (seenInt .u64 W (addOpt a0 0))) (fun v m _ => retSeen W v m)) = (
    (decide ((↑l1 : Int) > (100 : Int)) = true → true = true ∧ some W = some W) ∧ (decide ((↑l1 : Int) > (100 : Int)) = false → (((↑l0 : Int) == (0 : Int)) = true → true = true ∧ some W
    = some W) ∧ (((↑l0 : Int) == (0 : Int)) = false → (decide ((↑l0 : Int) > (100 : Int)) = true → true = true ∧ some W = some W) ∧ (decide ((↑l0 : Int) > (100 : Int)) = false → ∀ (v :
    Value) (cap : Nat) (z : Nat → Int) (ad : Option Addr) (ln cp : Nat), SegOk (1 : Nat) (segA [v]) → (1 : Nat) ≤ cap → (0 : Nat) < (1 : Nat) ∧ (2 : Nat) = (2 : Nat) ∧ (2 : Nat) = (2 :
    Nat) ∧ ((1 : Nat) ≤ (2 : Nat) ∧ (2 : Nat) ≤ (2048 : Nat)) ∧ (segA [v]).used + (2 : Nat) ≤ (segA [v]).cap ∧ ([] : List Nat) = [] ∧ (segA [v]).births < (268435455 : Nat) ∧ True ∧ ∀
    (v_1 : Value), ((0 : Int) ≤ (0 : Int) ∧ (0 : Int) < (↑l0 : Int) ∧ a0.isSome = true) ∧ Seen IntKind.u64 W (addOpt a0 (Int.toNat (0 : Int))) ∧ ((segA [v]).lay [(1 : Nat), (2 : Nat)]
    v_1).Has (0 : Int) (0 : Int) ∧ ((0 : Int) ≤ seenInt IntKind.u64 W (addOpt a0 (0 : Nat)) ∧ seenInt IntKind.u64 W (addOpt a0 (0 : Nat)) < (18446744073709551616 : Int)) ∧ ((0 : Int) ≤
    (0 : Int) ∧ (0 : Int) < (↑l0 : Int) ∧ a0.isSome = true) ∧ Seen IntKind.u64 W (addOpt a0 (Int.toNat (0 : Int))) ∧ (W = W ∧ (65537 : Int) = (65537 : Int) ∧ (W = W ∧ (65537 : Int) =
    (65537 : Int) ∧ (∀ (y : FY l1), (∃ (z : (Emb.mk { s : FS // FtOk l1 s } FY.hd).Z), FY.hd z = y) ∨ (∃ (z : (Emb.mk { s : FS // FtOk l1 s ∧ (↑(s.A.rd (65537 : Int) (4 : Int)) : Int) =
    (131074 : Int) } FY.lk).Z), FY.lk z = y) ∨ (∃ (z : (Emb.mk { s : FS // FtOk l1 s ∧ s.held = true } FY.r0).Z), FY.r0 z = y) ∨ (∃ (z : (Emb.mk { s : FS // FtOk l1 s ∧ s.held = true ∧
    (1 : Nat) ≤ s.cap } FY.r1).Z), FY.r1 z = y) ∨ (∃ (z : (Emb.mk { s : FS // FtOk l1 s ∧ s.held = true ∧ (2 : Nat) ≤ s.cap } FY.nw).Z), FY.nw z = y) ∨ (∃ (z : (Emb.mk { s : FS // FtOk
    l1 s } FY.nc).Z), FY.nc z = y) ∨ False) ∧ (∃ (z : (Emb.mk { s : FS // FtOk l1 s } FY.hd).Z), a0 = a0 ∧ l0 = l0 ∧ c0 = c0 ∧ a1 = a1 ∧ l1 = l1 ∧ c1 = c1 ∧ (↑l1 : Int) = (↑l1 : Int) ∧
    W = W ∧ (65537 : Int) = (65537 : Int) ∧ z.val.held = false ∧ (↑z.val.k : Int) = (0 : Int) ∧ XO.ar z.val.A = XO.ar (((segA [v]).lay [(1 : Nat), (2 : Nat)] v_1).write (0 : Int) (0 :
    Int) (seenInt IntKind.u64 W (addOpt a0 (0 : Nat)))) ∧ ((((0 : Nat) = (0 : Nat) ∧ True) ∧ True) ∧ (0 : Nat) = (0 : Nat) ∧ (65537 : Int) = (65537 : Int) ∧ (0 : Int) = (0 : Int) ∧
    seenInt IntKind.u64 W (addOpt a0 (0 : Nat)) = seenInt IntKind.u64 W (addOpt a0 (0 : Nat)) ∧ (131074 : Int) = (131074 : Int) ∧ (2 : Int) = (2 : Int) ∧ True ∧ (0 : Int) = (0 : Int) ∧
    True) ∧ True) ∧ (∀ (z : (Emb.mk { s : FS // FtOk l1 s } FY.hd).Z) (ρ : Nat → Value), (decide ((↑z.val.k : Int) < (↑l1 : Int)) = true → ((0 : Int) ≤ (↑z.val.k : Int) ∧ (↑z.val.k :
    Int) < (↑l1 : Int) ∧ a1.isSome = true) ∧ Seen IntKind.u8 W (addOpt a1 (↑z.val.k : Int).toNat) ∧ ((seenInt IntKind.u8 W (addOpt a1 (↑z.val.k : Int).toNat) % (3 : Int) == (0 : Int)) =
    true → ((0 : Int) ≤ (↑z.val.k : Int) ∧ (0 : Int) < (↑l0 : Int)) ∧ ((0 : Int) ≤ (↑z.val.k : Int) % (↑l0 : Int) ∧ (↑z.val.k : Int) % (↑l0 : Int) < (↑l0 : Int) ∧ a0.isSome = true) ∧
    Seen IntKind.u64 W (addOpt a0 ((↑z.val.k : Int) % (↑l0 : Int)).toNat) ∧ z.val.A.Has (0 : Int) (0 : Int) ∧ ((0 : Int) ≤ seenInt IntKind.u64 W (addOpt a0 ((↑z.val.k : Int) % (↑l0 :
    Int)).toNat) ∧ seenInt IntKind.u64 W (addOpt a0 ((↑z.val.k : Int) % (↑l0 : Int)).toNat) < (18446744073709551616 : Int)) ∧ (z.val.A.write (0 : Int) (0 : Int) (seenInt IntKind.u64 W
    (addOpt a0 ((↑z.val.k : Int) % (↑l0 : Int)).toNat))).Has (0 : Int) (0 : Int) ∧ (z.val.A.write (0 : Int) (0 : Int) (seenInt IntKind.u64 W (addOpt a0 ((↑z.val.k : Int) % (↑l0 :
    Int)).toNat))).read.Has (65537 : Int) (3 : Int) ∧ (z.val.A.write (0 : Int) (0 : Int) (seenInt IntKind.u64 W (addOpt a0 ((↑z.val.k : Int) % (↑l0 : Int)).toNat))).read.read.Has (65537
    : Int) (4 : Int) ∧ (z.val.held = true → ((-9223372036854775808 : Int) ≤ (↑z.val.k : Int) + (1 : Int) ∧ (↑z.val.k : Int) + (1 : Int) ≤ (9223372036854775807 : Int)) ∧ ∃ (z_1 : (Emb.mk
    { s : FS // FtOk l1 s } FY.hd).Z), l1 - ((Emb.mk { s : FS // FtOk l1 s } FY.hd).e z_1).s.k < l1 - ((Emb.mk { s : FS // FtOk l1 s } FY.hd).e z).s.k ∧ a0 = a0 ∧ l0 = l0 ∧ c0 = c0 ∧ a1
    = a1 ∧ l1 = l1 ∧ c1 = c1 ∧ (↑l1 : Int) = (↑l1 : Int) ∧ W = W ∧ (65537 : Int) = (65537 : Int) ∧ z_1.val.held = true ∧ (↑z_1.val.k : Int) = (↑z.val.k : Int) + (1 : Int) ∧ XO.ar
    z_1.val.A = XO.ar (z.val.A.write (0 : Int) (0 : Int) (seenInt IntKind.u64 W (addOpt a0 ((↑z.val.k : Int) % (↑l0 : Int)).toNat))).read.read.read ∧ ((((0 : Nat) = (0 : Nat) ∧ True) ∧
    True) ∧ (0 : Nat) = (0 : Nat) ∧ (65537 : Int) = (65537 : Int) ∧ (0 : Int) = (0 : Int) ∧ seenInt IntKind.u64 W (addOpt a0 (0 : Nat)) = seenInt IntKind.u64 W (addOpt a0 (0 : Nat)) ∧
    (131074 : Int) = (131074 : Int) ∧ (2 : Int) = (2 : Int) ∧ True ∧ (0 : Int) = (0 : Int) ∧ True) ∧ True) ∧ (z.val.held = false → (((↑((z.val.A.write (0 : Int) (0 : Int) (seenInt
    IntKind.u64 W (addOpt a0 ((↑z.val.k : Int) % (↑l0 : Int)).toNat))).read.read.rd (65537 : Int) (4 : Int)) : Int) == (131074 : Int)) = true → ((0 : Int) ≤ (0 : Int) ∧ (0 : Int) < (↑l0
    : Int) ∧ a0.isSome = true) ∧ Seen IntKind.u64 W (addOpt a0 (Int.toNat (0 : Int))) ∧ ((-9223372036854775808 : Int) ≤ (↑z.val.k : Int) + (1 : Int) ∧ (↑z.val.k : Int) + (1 : Int) ≤
    (9223372036854775807 : Int)) ∧ ∃ (z_1 : (Emb.mk { s : FS // FtOk l1 s } FY.hd).Z), l1 - ((Emb.mk { s : FS // FtOk l1 s } FY.hd).e z_1).s.k < l1 - ((Emb.mk { s : FS // FtOk l1 s }
    FY.hd).e z).s.k ∧ a0 = a0 ∧ l0 = l0 ∧ c0 = c0 ∧ a1 = a1 ∧ l1 = l1 ∧ c1 = c1 ∧ (↑l1 : Int) = (↑l1 : Int) ∧ W = W ∧ (65537 : Int) = (65537 : Int) ∧ z_1.val.held = ((↑((z.val.A.write
    (0 : Int) (0 : Int) (seenInt IntKind.u64 W (addOpt a0 ((↑z.val.k : Int) % (↑l0 : Int)).toNat))).rd (0 : Int) (0 : Int)) : Int) == seenInt IntKind.u64 W (addOpt a0 (0 : Nat))) ∧
    (↑z_1.val.k : Int) = (↑z.val.k : Int) + (1 : Int) ∧ XO.ar z_1.val.A = XO.ar (z.val.A.write (0 : Int) (0 : Int) (seenInt IntKind.u64 W (addOpt a0 ((↑z.val.k : Int) % (↑l0 :
    Int)).toNat))).read.read.read ∧ ((((0 : Nat) = (0 : Nat) ∧ True) ∧ True) ∧ (0 : Nat) = (0 : Nat) ∧ (65537 : Int) = (65537 : Int) ∧ (0 : Int) = (0 : Int) ∧ seenInt IntKind.u64 W
    (addOpt a0 (0 : Nat)) = seenInt IntKind.u64 W (addOpt a0 (0 : Nat)) ∧ (131074 : Int) = (131074 : Int) ∧ (2 : Int) = (2 : Int) ∧ True ∧ (0 : Int) = (0 : Int) ∧ True) ∧ True) ∧
    (((↑((z.val.A.write (0 : Int) (0 : Int) (seenInt IntKind.u64 W (addOpt a0 ((↑z.val.k : Int) % (↑l0 : Int)).toNat))).read.read.rd (65537 : Int) (4 : Int)) : Int) == (131074 : Int)) =
    false → ((-9223372036854775808 : Int) ≤ (↑z.val.k : Int) + (1 : Int) ∧ (↑z.val.k : Int) + (1 : Int) ≤ (9223372036854775807 : Int)) ∧ ∃ (z_1 : (Emb.mk { s : FS // FtOk l1 s }
    FY.hd).Z), l1 - ((Emb.mk { s : FS // FtOk l1 s } FY.hd).e z_1).s.k < l1 - ((Emb.mk { s : FS // FtOk l1 s } FY.hd).e z).s.k ∧ a0 = a0 ∧ l0 = l0 ∧ c0 = c0 ∧ a1 = a1 ∧ l1 = l1 ∧ c1 =
    c1 ∧ (↑l1 : Int) = (↑l1 : Int) ∧ W = W ∧ (65537 : Int) = (65537 : Int) ∧ z_1.val.held = false ∧ (↑z_1.val.k : Int) = (↑z.val.k : Int) + (1 : Int) ∧ XO.ar z_1.val.A = XO.ar
    (z.val.A.write (0 : Int) (0 : Int) (seenInt IntKind.u64 W (addOpt a0 ((↑z.val.k : Int) % (↑l0 : Int)).toNat))).read.read.read ∧ ((((0 : Nat) = (0 : Nat) ∧ True) ∧ True) ∧ (0 : Nat)
    = (0 : Nat) ∧ (65537 : Int) = (65537 : Int) ∧ (0 : Int) = (0 : Int) ∧ seenInt IntKind.u64 W (addOpt a0 (0 : Nat)) = seenInt IntKind.u64 W (addOpt a0 (0 : Nat)) ∧ (131074 : Int) =
    (131074 : Int) ∧ (2 : Int) = (2 : Int) ∧ True ∧ (0 : Int) = (0 : Int) ∧ True) ∧ True))) ∧ ((seenInt IntKind.u8 W (addOpt a1 (↑z.val.k : Int).toNat) % (3 : Int) == (0 : Int)) = false
    → ((z.val.A.Has (65537 : Int) (4 : Int) ∧ ((0 : Int) ≤ (131074 : Int) ∧ (131074 : Int) < (18446744073709551616 : Int)) ∧ (z.val.A.write (65537 : Int) (4 : Int) (131074 : Int)).Has
    (0 : Int) (0 : Int) ∧ (z.val.A.write (65537 : Int) (4 : Int) (131074 : Int)).read.Has (65537 : Int) (3 : Int) ∧ (z.val.A.write (65537 : Int) (4 : Int) (131074 : Int)).read.read.Has
    (65537 : Int) (4 : Int) ∧ (z.val.held = true → ((-9223372036854775808 : Int) ≤ (↑z.val.k : Int) + (1 : Int) ∧ (↑z.val.k : Int) + (1 : Int) ≤ (9223372036854775807 : Int)) ∧ ∃ (z_1 :
    (Emb.mk { s : FS // FtOk l1 s ∧ (↑(s.A.rd (65537 : Int) (4 : Int)) : Int) = (131074 : Int) } FY.lk).Z), l1 - ((Emb.mk { s : FS // FtOk l1 s ∧ (↑(s.A.rd (65537 : Int) (4 : Int)) :
    Int) = (131074 : Int) } FY.lk).e z_1).s.k < l1 - ((Emb.mk { s : FS // FtOk l1 s } FY.hd).e z).s.k ∧ a0 = a0 ∧ l0 = l0 ∧ c0 = c0 ∧ a1 = a1 ∧ l1 = l1 ∧ c1 = c1 ∧ (↑l1 : Int) = (↑l1 :
    Int) ∧ W = W ∧ (65537 : Int) = (65537 : Int) ∧ z_1.val.held = true ∧ (↑z_1.val.k : Int) = (↑z.val.k : Int) + (1 : Int) ∧ XO.ar z_1.val.A = XO.ar (z.val.A.write (65537 : Int) (4 :
    Int) (131074 : Int)).read.read.read ∧ ((((0 : Nat) = (0 : Nat) ∧ True) ∧ True) ∧ (0 : Nat) = (0 : Nat) ∧ (65537 : Int) = (65537 : Int) ∧ (0 : Int) = (0 : Int) ∧ seenInt IntKind.u64
    W (addOpt a0 (0 : Nat)) = seenInt IntKind.u64 W (addOpt a0 (0 : Nat)) ∧ (131074 : Int) = (131074 : Int) ∧ (2 : Int) = (2 : Int) ∧ True ∧ (0 : Int) = (0 : Int) ∧ True) ∧ True) ∧
    (z.val.held = false → (((↑((z.val.A.write (65537 : Int) (4 : Int) (131074 : Int)).read.read.rd (65537 : Int) (4 : Int)) : Int) == (131074 : Int)) = true → ((0 : Int) ≤ (0 : Int) ∧
    (0 : Int) < (↑l0 : Int) ∧ a0.isSome = true) ∧ Seen IntKind.u64 W (addOpt a0 (Int.toNat (0 : Int))) ∧ ((-9223372036854775808 : Int) ≤ (↑z.val.k : Int) + (1 : Int) ∧ (↑z.val.k : Int)
    + (1 : Int) ≤ (9223372036854775807 : Int)) ∧ ∃ (z_1 : (Emb.mk { s : FS // FtOk l1 s ∧ (↑(s.A.rd (65537 : Int) (4 : Int)) : Int) = (131074 : Int) } FY.lk).Z), l1 - ((Emb.mk { s : FS
    // FtOk l1 s ∧ (↑(s.A.rd (65537 : Int) (4 : Int)) : Int) = (131074 : Int) } FY.lk).e z_1).s.k < l1 - ((Emb.mk { s : FS // FtOk l1 s } FY.hd).e z).s.k ∧ a0 = a0 ∧ l0 = l0 ∧ c0 = c0 ∧
    a1 = a1 ∧ l1 = l1 ∧ c1 = c1 ∧ (↑l1 : Int) = (↑l1 : Int) ∧ W = W ∧ (65537 : Int) = (65537 : Int) ∧ z_1.val.held = ((↑((z.val.A.write (65537 : Int) (4 : Int) (131074 : Int)).rd (0 :
    Int) (0 : Int)) : Int) == seenInt IntKind.u64 W (addOpt a0 (0 : Nat))) ∧ (↑z_1.val.k : Int) = (↑z.val.k : Int) + (1 : Int) ∧ XO.ar z_1.val.A = XO.ar (z.val.A.write (65537 : Int) (4
    : Int) (131074 : Int)).read.read.read ∧ ((((0 : Nat) = (0 : Nat) ∧ True) ∧ True) ∧ (0 : Nat) = (0 : Nat) ∧ (65537 : Int) = (65537 : Int) ∧ (0 : Int) = (0 : Int) ∧ seenInt
    IntKind.u64 W (addOpt a0 (0 : Nat)) = seenInt IntKind.u64 W (addOpt a0 (0 : Nat)) ∧ (131074 : Int) = (131074 : Int) ∧ (2 : Int) = (2 : Int) ∧ True ∧ (0 : Int) = (0 : Int) ∧ True) ∧
    True) ∧ (((↑((z.val.A.write (65537 : Int) (4 : Int) (131074 : Int)).read.read.rd (65537 : Int) (4 : Int)) : Int) == (131074 : Int)) = false → ((-9223372036854775808 : Int) ≤
    (↑z.val.k : Int) + (1 : Int) ∧ (↑z.val.k : Int) + (1 : Int) ≤ (9223372036854775807 : Int)) ∧ ∃ (z_1 : (Emb.mk { s : FS // FtOk l1 s ∧ (↑(s.A.rd (65537 : Int) (4 : Int)) : Int) =
    (131074 : Int) } FY.lk).Z), l1 - ((Emb.mk { s : FS // FtOk l1 s ∧ (↑(s.A.rd (65537 : Int) (4 : Int)) : Int) = (131074 : Int) } FY.lk).e z_1).s.k < l1 - ((Emb.mk { s : FS // FtOk l1
    s } FY.hd).e z).s.k ∧ a0 = a0 ∧ l0 = l0 ∧ c0 = c0 ∧ a1 = a1 ∧ l1 = l1 ∧ c1 = c1 ∧ (↑l1 : Int) = (↑l1 : Int) ∧ W = W ∧ (65537 : Int) = (65537 : Int) ∧ z_1.val.held = false ∧
    (↑z_1.val.k : Int) = (↑z.val.k : Int) + (1 : Int) ∧ XO.ar z_1.val.A = XO.ar (z.val.A.write (65537 : Int) (4 : Int) (131074 : Int)).read.read.read ∧ ((((0 : Nat) = (0 : Nat) ∧ True)
    ∧ True) ∧ (0 : Nat) = (0 : Nat) ∧ (65537 : Int) = (65537 : Int) ∧ (0 : Int) = (0 : Int) ∧ seenInt IntKind.u64 W (addOpt a0 (0 : Nat)) = seenInt IntKind.u64 W (addOpt a0 (0 : Nat)) ∧
    (131074 : Int) = (131074 : Int) ∧ (2 : Int) = (2 : Int) ∧ True ∧ (0 : Int) = (0 : Int) ∧ True) ∧ True))) ∧ True) ∧ True)) ∧ (decide ((↑z.val.k : Int) < (↑l1 : Int)) = false → true =
    true ∧ some W = some W)) ∧ (∀ (z : (Emb.mk { s : FS // FtOk l1 s ∧ (↑(s.A.rd (65537 : Int) (4 : Int)) : Int) = (131074 : Int) } FY.lk).Z) (ρ : Nat → Value), (decide ((↑z.val.k :
    Int) < (↑l1 : Int)) = true → ((0 : Int) ≤ (↑z.val.k : Int) ∧ (↑z.val.k : Int) < (↑l1 : Int) ∧ a1.isSome = true) ∧ Seen IntKind.u8 W (addOpt a1 (↑z.val.k : Int).toNat) ∧ ((seenInt
    IntKind.u8 W (addOpt a1 (↑z.val.k : Int).toNat) % (3 : Int) == (0 : Int)) = true → ((0 : Int) ≤ (↑z.val.k : Int) ∧ (0 : Int) < (↑l0 : Int)) ∧ ((0 : Int) ≤ (↑z.val.k : Int) % (↑l0 :
    Int) ∧ (↑z.val.k : Int) % (↑l0 : Int) < (↑l0 : Int) ∧ a0.isSome = true) ∧ Seen IntKind.u64 W (addOpt a0 ((↑z.val.k : Int) % (↑l0 : Int)).toNat) ∧ z.val.A.Has (0 : Int) (0 : Int) ∧
    ((0 : Int) ≤ seenInt IntKind.u64 W (addOpt a0 ((↑z.val.k : Int) % (↑l0 : Int)).toNat) ∧ seenInt IntKind.u64 W (addOpt a0 ((↑z.val.k : Int) % (↑l0 : Int)).toNat) <
    (18446744073709551616 : Int)) ∧ (z.val.A.write (0 : Int) (0 : Int) (seenInt IntKind.u64 W (addOpt a0 ((↑z.val.k : Int) % (↑l0 : Int)).toNat))).Has (0 : Int) (0 : Int) ∧
    (z.val.A.write (0 : Int) (0 : Int) (seenInt IntKind.u64 W (addOpt a0 ((↑z.val.k : Int) % (↑l0 : Int)).toNat))).read.Has (65537 : Int) (3 : Int) ∧ (z.val.A.write (0 : Int) (0 : Int)
    (seenInt IntKind.u64 W (addOpt a0 ((↑z.val.k : Int) % (↑l0 : Int)).toNat))).read.read.Has (65537 : Int) (4 : Int) ∧ (z.val.held = true → ((-9223372036854775808 : Int) ≤ (↑z.val.k :
    Int) + (1 : Int) ∧ (↑z.val.k : Int) + (1 : Int) ≤ (9223372036854775807 : Int)) ∧ ∃ (z_1 : (Emb.mk { s : FS // FtOk l1 s ∧ (↑(s.A.rd (65537 : Int) (4 : Int)) : Int) = (131074 : Int)
    } FY.lk).Z), l1 - ((Emb.mk { s : FS // FtOk l1 s ∧ (↑(s.A.rd (65537 : Int) (4 : Int)) : Int) = (131074 : Int) } FY.lk).e z_1).s.k < l1 - ((Emb.mk { s : FS // FtOk l1 s ∧ (↑(s.A.rd
    (65537 : Int) (4 : Int)) : Int) = (131074 : Int) } FY.lk).e z).s.k ∧ a0 = a0 ∧ l0 = l0 ∧ c0 = c0 ∧ a1 = a1 ∧ l1 = l1 ∧ c1 = c1 ∧ (↑l1 : Int) = (↑l1 : Int) ∧ W = W ∧ (65537 : Int) =
    (65537 : Int) ∧ z_1.val.held = true ∧ (↑z_1.val.k : Int) = (↑z.val.k : Int) + (1 : Int) ∧ XO.ar z_1.val.A = XO.ar (z.val.A.write (0 : Int) (0 : Int) (seenInt IntKind.u64 W (addOpt
    a0 ((↑z.val.k : Int) % (↑l0 : Int)).toNat))).read.read.read ∧ ((((0 : Nat) = (0 : Nat) ∧ True) ∧ True) ∧ (0 : Nat) = (0 : Nat) ∧ (65537 : Int) = (65537 : Int) ∧ (0 : Int) = (0 :
    Int) ∧ seenInt IntKind.u64 W (addOpt a0 (0 : Nat)) = seenInt IntKind.u64 W (addOpt a0 (0 : Nat)) ∧ (131074 : Int) = (131074 : Int) ∧ (2 : Int) = (2 : Int) ∧ True ∧ (0 : Int) = (0 :
    Int) ∧ True) ∧ True) ∧ (z.val.held = false → (((↑((z.val.A.write (0 : Int) (0 : Int) (seenInt IntKind.u64 W (addOpt a0 ((↑z.val.k : Int) % (↑l0 : Int)).toNat))).read.read.rd (65537
    : Int) (4 : Int)) : Int) == (131074 : Int)) = true → ((0 : Int) ≤ (0 : Int) ∧ (0 : Int) < (↑l0 : Int) ∧ a0.isSome = true) ∧ Seen IntKind.u64 W (addOpt a0 (Int.toNat (0 : Int))) ∧
    ((-9223372036854775808 : Int) ≤ (↑z.val.k : Int) + (1 : Int) ∧ (↑z.val.k : Int) + (1 : Int) ≤ (9223372036854775807 : Int)) ∧ ∃ (z_1 : (Emb.mk { s : FS // FtOk l1 s ∧ (↑(s.A.rd
    (65537 : Int) (4 : Int)) : Int) = (131074 : Int) } FY.lk).Z), l1 - ((Emb.mk { s : FS // FtOk l1 s ∧ (↑(s.A.rd (65537 : Int) (4 : Int)) : Int) = (131074 : Int) } FY.lk).e z_1).s.k <
    l1 - ((Emb.mk { s : FS // FtOk l1 s ∧ (↑(s.A.rd (65537 : Int) (4 : Int)) : Int) = (131074 : Int) } FY.lk).e z).s.k ∧ a0 = a0 ∧ l0 = l0 ∧ c0 = c0 ∧ a1 = a1 ∧ l1 = l1 ∧ c1 = c1 ∧ (↑l1
    : Int) = (↑l1 : Int) ∧ W = W ∧ (65537 : Int) = (65537 : Int) ∧ z_1.val.held = ((↑((z.val.A.write (0 : Int) (0 : Int) (seenInt IntKind.u64 W (addOpt a0 ((↑z.val.k : Int) % (↑l0 :
    Int)).toNat))).rd (0 : Int) (0 : Int)) : Int) == seenInt IntKind.u64 W (addOpt a0 (0 : Nat))) ∧ (↑z_1.val.k : Int) = (↑z.val.k : Int) + (1 : Int) ∧ XO.ar z_1.val.A = XO.ar
    (z.val.A.write (0 : Int) (0 : Int) (seenInt IntKind.u64 W (addOpt a0 ((↑z.val.k : Int) % (↑l0 : Int)).toNat))).read.read.read ∧ ((((0 : Nat) = (0 : Nat) ∧ True) ∧ True) ∧ (0 : Nat)
    = (0 : Nat) ∧ (65537 : Int) = (65537 : Int) ∧ (0 : Int) = (0 : Int) ∧ seenInt IntKind.u64 W (addOpt a0 (0 : Nat)) = seenInt IntKind.u64 W (addOpt a0 (0 : Nat)) ∧ (131074 : Int) =
    (131074 : Int) ∧ (2 : Int) = (2 : Int) ∧ True ∧ (0 : Int) = (0 : Int) ∧ True) ∧ True) ∧ (((↑((z.val.A.write (0 : Int) (0 : Int) (seenInt IntKind.u64 W (addOpt a0 ((↑z.val.k : Int) %
    (↑l0 : Int)).toNat))).read.read.rd (65537 : Int) (4 : Int)) : Int) == (131074 : Int)) = false → ((-9223372036854775808 : Int) ≤ (↑z.val.k : Int) + (1 : Int) ∧ (↑z.val.k : Int) + (1
    : Int) ≤ (9223372036854775807 : Int)) ∧ ∃ (z_1 : (Emb.mk { s : FS // FtOk l1 s ∧ (↑(s.A.rd (65537 : Int) (4 : Int)) : Int) = (131074 : Int) } FY.lk).Z), l1 - ((Emb.mk { s : FS //
    FtOk l1 s ∧ (↑(s.A.rd (65537 : Int) (4 : Int)) : Int) = (131074 : Int) } FY.lk).e z_1).s.k < l1 - ((Emb.mk { s : FS // FtOk l1 s ∧ (↑(s.A.rd (65537 : Int) (4 : Int)) : Int) =
    (131074 : Int) } FY.lk).e z).s.k ∧ a0 = a0 ∧ l0 = l0 ∧ c0 = c0 ∧ a1 = a1 ∧ l1 = l1 ∧ c1 = c1 ∧ (↑l1 : Int) = (↑l1 : Int) ∧ W = W ∧ (65537 : Int) = (65537 : Int) ∧ z_1.val.held =
    false ∧ (↑z_1.val.k : Int) = (↑z.val.k : Int) + (1 : Int) ∧ XO.ar z_1.val.A = XO.ar (z.val.A.write (0 : Int) (0 : Int) (seenInt IntKind.u64 W (addOpt a0 ((↑z.val.k : Int) % (↑l0 :
    Int)).toNat))).read.read.read ∧ ((((0 : Nat) = (0 : Nat) ∧ True) ∧ True) ∧ (0 : Nat) = (0 : Nat) ∧ (65537 : Int) = (65537 : Int) ∧ (0 : Int) = (0 : Int) ∧ seenInt IntKind.u64 W
    (addOpt a0 (0 : Nat)) = seenInt IntKind.u64 W (addOpt a0 (0 : Nat)) ∧ (131074 : Int) = (131074 : Int) ∧ (2 : Int) = (2 : Int) ∧ True ∧ (0 : Int) = (0 : Int) ∧ True) ∧ True))) ∧
    ((seenInt IntKind.u8 W (addOpt a1 (↑z.val.k : Int).toNat) % (3 : Int) == (0 : Int)) = false → (seenInt IntKind.u64 W (addOpt a0 (0 : Nat)) = seenInt IntKind.u64 W (addOpt a0 (0 :
    Nat)) ∧ W = W ∧ (z.val.A.Has (0 : Int) (0 : Int) ∧ (((↑(z.val.A.rd (0 : Int) (0 : Int)) : Int) != seenInt IntKind.u64 W (addOpt a0 (0 : Nat))) = true → z.val.A.read.Has (0 : Int) (0
    : Int) ∧ z.val.A.read.read.Has (65537 : Int) (3 : Int) ∧ z.val.A.read.read.read.Has (65537 : Int) (4 : Int) ∧ (z.val.held = true → ((-9223372036854775808 : Int) ≤ (↑z.val.k : Int) +
    (1 : Int) ∧ (↑z.val.k : Int) + (1 : Int) ≤ (9223372036854775807 : Int)) ∧ ∃ (z_1 : (Emb.mk { s : FS // FtOk l1 s } FY.nc).Z), l1 - ((Emb.mk { s : FS // FtOk l1 s } FY.nc).e z_1).s.k
    < l1 - ((Emb.mk { s : FS // FtOk l1 s ∧ (↑(s.A.rd (65537 : Int) (4 : Int)) : Int) = (131074 : Int) } FY.lk).e z).s.k ∧ a0 = a0 ∧ l0 = l0 ∧ c0 = c0 ∧ a1 = a1 ∧ l1 = l1 ∧ c1 = c1 ∧
    (↑l1 : Int) = (↑l1 : Int) ∧ W = W ∧ (65537 : Int) = (65537 : Int) ∧ z_1.val.held = true ∧ (↑z_1.val.k : Int) = (↑z.val.k : Int) + (1 : Int) ∧ XO.ar z_1.val.A = XO.ar
    z.val.A.read.read.read.read ∧ (Value.nilFunc = Value.nilFunc ∧ (0 : Nat) = (0 : Nat) ∧ (65537 : Int) = (65537 : Int) ∧ (0 : Int) = (0 : Int) ∧ seenInt IntKind.u64 W (addOpt a0 (0 :
    Nat)) = seenInt IntKind.u64 W (addOpt a0 (0 : Nat)) ∧ (131074 : Int) = (131074 : Int) ∧ (2 : Int) = (2 : Int) ∧ True ∧ (2 : Int) = (2 : Int) ∧ True) ∧ True) ∧ (z.val.held = false →
    (((↑(z.val.A.read.read.read.rd (65537 : Int) (4 : Int)) : Int) == (131074 : Int)) = true → ((0 : Int) ≤ (0 : Int) ∧ (0 : Int) < (↑l0 : Int) ∧ a0.isSome = true) ∧ Seen IntKind.u64 W
    (addOpt a0 (Int.toNat (0 : Int))) ∧ ((-9223372036854775808 : Int) ≤ (↑z.val.k : Int) + (1 : Int) ∧ (↑z.val.k : Int) + (1 : Int) ≤ (9223372036854775807 : Int)) ∧ ∃ (z_1 : (Emb.mk { s
    : FS // FtOk l1 s } FY.nc).Z), l1 - ((Emb.mk { s : FS // FtOk l1 s } FY.nc).e z_1).s.k < l1 - ((Emb.mk { s : FS // FtOk l1 s ∧ (↑(s.A.rd (65537 : Int) (4 : Int)) : Int) = (131074 :
    Int) } FY.lk).e z).s.k ∧ a0 = a0 ∧ l0 = l0 ∧ c0 = c0 ∧ a1 = a1 ∧ l1 = l1 ∧ c1 = c1 ∧ (↑l1 : Int) = (↑l1 : Int) ∧ W = W ∧ (65537 : Int) = (65537 : Int) ∧ z_1.val.held =
    ((↑(z.val.A.read.rd (0 : Int) (0 : Int)) : Int) == seenInt IntKind.u64 W (addOpt a0 (0 : Nat))) ∧ (↑z_1.val.k : Int) = (↑z.val.k : Int) + (1 : Int) ∧ XO.ar z_1.val.A = XO.ar
    z.val.A.read.read.read.read ∧ (Value.nilFunc = Value.nilFunc ∧ (0 : Nat) = (0 : Nat) ∧ (65537 : Int) = (65537 : Int) ∧ (0 : Int) = (0 : Int) ∧ seenInt IntKind.u64 W (addOpt a0 (0 :
    Nat)) = seenInt IntKind.u64 W (addOpt a0 (0 : Nat)) ∧ (131074 : Int) = (131074 : Int) ∧ (2 : Int) = (2 : Int) ∧ True ∧ (2 : Int) = (2 : Int) ∧ True) ∧ True) ∧
    (((↑(z.val.A.read.read.read.rd (65537 : Int) (4 : Int)) : Int) == (131074 : Int)) = false → ((-9223372036854775808 : Int) ≤ (↑z.val.k : Int) + (1 : Int) ∧ (↑z.val.k : Int) + (1 :
    Int) ≤ (9223372036854775807 : Int)) ∧ ∃ (z_1 : (Emb.mk { s : FS // FtOk l1 s } FY.nc).Z), l1 - ((Emb.mk { s : FS // FtOk l1 s } FY.nc).e z_1).s.k < l1 - ((Emb.mk { s : FS // FtOk l1
    s ∧ (↑(s.A.rd (65537 : Int) (4 : Int)) : Int) = (131074 : Int) } FY.lk).e z).s.k ∧ a0 = a0 ∧ l0 = l0 ∧ c0 = c0 ∧ a1 = a1 ∧ l1 = l1 ∧ c1 = c1 ∧ (↑l1 : Int) = (↑l1 : Int) ∧ W = W ∧
    (65537 : Int) = (65537 : Int) ∧ z_1.val.held = false ∧ (↑z_1.val.k : Int) = (↑z.val.k : Int) + (1 : Int) ∧ XO.ar z_1.val.A = XO.ar z.val.A.read.read.read.read ∧ (Value.nilFunc =
    Value.nilFunc ∧ (0 : Nat) = (0 : Nat) ∧ (65537 : Int) = (65537 : Int) ∧ (0 : Int) = (0 : Int) ∧ seenInt IntKind.u64 W (addOpt a0 (0 : Nat)) = seenInt IntKind.u64 W (addOpt a0 (0 :
    Nat)) ∧ (131074 : Int) = (131074 : Int) ∧ (2 : Int) = (2 : Int) ∧ True ∧ (2 : Int) = (2 : Int) ∧ True) ∧ True))) ∧ (((↑(z.val.A.rd (0 : Int) (0 : Int)) : Int) != seenInt IntKind.u64
    W (addOpt a0 (0 : Nat))) = false → z.val.A.read.Has (0 : Int) (0 : Int) ∧ z.val.A.read.read.Has (65537 : Int) (3 : Int) ∧ z.val.A.read.read.read.Has (65537 : Int) (4 : Int) ∧
    (z.val.held = true → ((-9223372036854775808 : Int) ≤ (↑z.val.k : Int) + (1 : Int) ∧ (↑z.val.k : Int) + (1 : Int) ≤ (9223372036854775807 : Int)) ∧ ∃ (z_1 : (Emb.mk { s : FS // FtOk
    l1 s ∧ s.held = true } FY.r0).Z), l1 - ((Emb.mk { s : FS // FtOk l1 s ∧ s.held = true } FY.r0).e z_1).s.k < l1 - ((Emb.mk { s : FS // FtOk l1 s ∧ (↑(s.A.rd (65537 : Int) (4 : Int))
    : Int) = (131074 : Int) } FY.lk).e z).s.k ∧ a0 = a0 ∧ l0 = l0 ∧ c0 = c0 ∧ a1 = a1 ∧ l1 = l1 ∧ c1 = c1 ∧ (↑l1 : Int) = (↑l1 : Int) ∧ W = W ∧ (65537 : Int) = (65537 : Int) ∧
    z_1.val.held = true ∧ (↑z_1.val.k : Int) = (↑z.val.k : Int) + (1 : Int) ∧ XO.ar z_1.val.A = XO.ar z.val.A.read.read.read.read ∧ ((((0 : Nat) = (0 : Nat) ∧ True) ∧ True) ∧ (0 : Nat)
    = (0 : Nat) ∧ (65537 : Int) = (65537 : Int) ∧ (0 : Int) = (0 : Int) ∧ seenInt IntKind.u64 W (addOpt a0 (0 : Nat)) = seenInt IntKind.u64 W (addOpt a0 (0 : Nat)) ∧ (131074 : Int) =
    (131074 : Int) ∧ (2 : Int) = (2 : Int) ∧ True ∧ (0 : Int) = (0 : Int) ∧ True) ∧ True) ∧ (z.val.held = false → (((↑(z.val.A.read.read.read.rd (65537 : Int) (4 : Int)) : Int) ==
    (131074 : Int)) = true → ((0 : Int) ≤ (0 : Int) ∧ (0 : Int) < (↑l0 : Int) ∧ a0.isSome = true) ∧ Seen IntKind.u64 W (addOpt a0 (Int.toNat (0 : Int))) ∧ ((-9223372036854775808 : Int)
    ≤ (↑z.val.k : Int) + (1 : Int) ∧ (↑z.val.k : Int) + (1 : Int) ≤ (9223372036854775807 : Int)) ∧ ∃ (z_1 : (Emb.mk { s : FS // FtOk l1 s ∧ s.held = true } FY.r0).Z), l1 - ((Emb.mk { s
    : FS // FtOk l1 s ∧ s.held = true } FY.r0).e z_1).s.k < l1 - ((Emb.mk { s : FS // FtOk l1 s ∧ (↑(s.A.rd (65537 : Int) (4 : Int)) : Int) = (131074 : Int) } FY.lk).e z).s.k ∧ a0 = a0
    ∧ l0 = l0 ∧ c0 = c0 ∧ a1 = a1 ∧ l1 = l1 ∧ c1 = c1 ∧ (↑l1 : Int) = (↑l1 : Int) ∧ W = W ∧ (65537 : Int) = (65537 : Int) ∧ z_1.val.held = ((↑(z.val.A.read.rd (0 : Int) (0 : Int)) :
    Int) == seenInt IntKind.u64 W (addOpt a0 (0 : Nat))) ∧ (↑z_1.val.k : Int) = (↑z.val.k : Int) + (1 : Int) ∧ XO.ar z_1.val.A = XO.ar z.val.A.read.read.read.read ∧ ((((0 : Nat) = (0 :
    Nat) ∧ True) ∧ True) ∧ (0 : Nat) = (0 : Nat) ∧ (65537 : Int) = (65537 : Int) ∧ (0 : Int) = (0 : Int) ∧ seenInt IntKind.u64 W (addOpt a0 (0 : Nat)) = seenInt IntKind.u64 W (addOpt a0
    (0 : Nat)) ∧ (131074 : Int) = (131074 : Int) ∧ (2 : Int) = (2 : Int) ∧ True ∧ (0 : Int) = (0 : Int) ∧ True) ∧ True) ∧ (((↑(z.val.A.read.read.read.rd (65537 : Int) (4 : Int)) : Int)
    == (131074 : Int)) = false → ((-9223372036854775808 : Int) ≤ (↑z.val.k : Int) + (1 : Int) ∧ (↑z.val.k : Int) + (1 : Int) ≤ (9223372036854775807 : Int)) ∧ ∃ (z_1 : (Emb.mk { s : FS
    // FtOk l1 s ∧ s.held = true } FY.r0).Z), l1 - ((Emb.mk { s : FS // FtOk l1 s ∧ s.held = true } FY.r0).e z_1).s.k < l1 - ((Emb.mk { s : FS // FtOk l1 s ∧ (↑(s.A.rd (65537 : Int) (4
    : Int)) : Int) = (131074 : Int) } FY.lk).e z).s.k ∧ a0 = a0 ∧ l0 = l0 ∧ c0 = c0 ∧ a1 = a1 ∧ l1 = l1 ∧ c1 = c1 ∧ (↑l1 : Int) = (↑l1 : Int) ∧ W = W ∧ (65537 : Int) = (65537 : Int) ∧
    z_1.val.held = false ∧ (↑z_1.val.k : Int) = (↑z.val.k : Int) + (1 : Int) ∧ XO.ar z_1.val.A = XO.ar z.val.A.read.read.read.read ∧ ((((0 : Nat) = (0 : Nat) ∧ True) ∧ True) ∧ (0 : Nat)
    = (0 : Nat) ∧ (65537 : Int) = (65537 : Int) ∧ (0 : Int) = (0 : Int) ∧ seenInt IntKind.u64 W (addOpt a0 (0 : Nat)) = seenInt IntKind.u64 W (addOpt a0 (0 : Nat)) ∧ (131074 : Int) =
    (131074 : Int) ∧ (2 : Int) = (2 : Int) ∧ True ∧ (0 : Int) = (0 : Int) ∧ True) ∧ True)))) ∧ True) ∧ True)) ∧ (decide ((↑z.val.k : Int) < (↑l1 : Int)) = false → true = true ∧ some W =
    some W)) ∧ (∀ (z : (Emb.mk { s : FS // FtOk l1 s ∧ s.held = true } FY.r0).Z) (ρ : Nat → Value), (decide ((↑z.val.k : Int) < (↑l1 : Int)) = true → ((0 : Int) ≤ (↑z.val.k : Int) ∧
    (↑z.val.k : Int) < (↑l1 : Int) ∧ a1.isSome = true) ∧ Seen IntKind.u8 W (addOpt a1 (↑z.val.k : Int).toNat) ∧ ((seenInt IntKind.u8 W (addOpt a1 (↑z.val.k : Int).toNat) % (3 : Int) ==
    (0 : Int)) = true → ((0 : Int) ≤ (↑z.val.k : Int) ∧ (0 : Int) < (↑l0 : Int)) ∧ ((0 : Int) ≤ (↑z.val.k : Int) % (↑l0 : Int) ∧ (↑z.val.k : Int) % (↑l0 : Int) < (↑l0 : Int) ∧ a0.isSome
    = true) ∧ Seen IntKind.u64 W (addOpt a0 ((↑z.val.k : Int) % (↑l0 : Int)).toNat) ∧ z.val.A.Has (0 : Int) (0 : Int) ∧ ((0 : Int) ≤ seenInt IntKind.u64 W (addOpt a0 ((↑z.val.k : Int) %
    (↑l0 : Int)).toNat) ∧ seenInt IntKind.u64 W (addOpt a0 ((↑z.val.k : Int) % (↑l0 : Int)).toNat) < (18446744073709551616 : Int)) ∧ (z.val.A.write (0 : Int) (0 : Int) (seenInt
    IntKind.u64 W (addOpt a0 ((↑z.val.k : Int) % (↑l0 : Int)).toNat))).Has (0 : Int) (0 : Int) ∧ (z.val.A.write (0 : Int) (0 : Int) (seenInt IntKind.u64 W (addOpt a0 ((↑z.val.k : Int) %
    (↑l0 : Int)).toNat))).read.Has (65537 : Int) (3 : Int) ∧ (z.val.A.write (0 : Int) (0 : Int) (seenInt IntKind.u64 W (addOpt a0 ((↑z.val.k : Int) % (↑l0 : Int)).toNat))).read.read.Has
    (65537 : Int) (4 : Int) ∧ (z.val.held = true → ((-9223372036854775808 : Int) ≤ (↑z.val.k : Int) + (1 : Int) ∧ (↑z.val.k : Int) + (1 : Int) ≤ (9223372036854775807 : Int)) ∧ ∃ (z_1 :
    (Emb.mk { s : FS // FtOk l1 s ∧ s.held = true } FY.r0).Z), l1 - ((Emb.mk { s : FS // FtOk l1 s ∧ s.held = true } FY.r0).e z_1).s.k < l1 - ((Emb.mk { s : FS // FtOk l1 s ∧ s.held =
    true } FY.r0).e z).s.k ∧ a0 = a0 ∧ l0 = l0 ∧ c0 = c0 ∧ a1 = a1 ∧ l1 = l1 ∧ c1 = c1 ∧ (↑l1 : Int) = (↑l1 : Int) ∧ W = W ∧ (65537 : Int) = (65537 : Int) ∧ z_1.val.held = true ∧
    (↑z_1.val.k : Int) = (↑z.val.k : Int) + (1 : Int) ∧ XO.ar z_1.val.A = XO.ar (z.val.A.write (0 : Int) (0 : Int) (seenInt IntKind.u64 W (addOpt a0 ((↑z.val.k : Int) % (↑l0 :
    Int)).toNat))).read.read.read ∧ ((((0 : Nat) = (0 : Nat) ∧ True) ∧ True) ∧ (0 : Nat) = (0 : Nat) ∧ (65537 : Int) = (65537 : Int) ∧ (0 : Int) = (0 : Int) ∧ seenInt IntKind.u64 W
    (addOpt a0 (0 : Nat)) = seenInt IntKind.u64 W (addOpt a0 (0 : Nat)) ∧ (131074 : Int) = (131074 : Int) ∧ (2 : Int) = (2 : Int) ∧ True ∧ (0 : Int) = (0 : Int) ∧ True) ∧ True) ∧
    (z.val.held = false → (((↑((z.val.A.write (0 : Int) (0 : Int) (seenInt IntKind.u64 W (addOpt a0 ((↑z.val.k : Int) % (↑l0 : Int)).toNat))).read.read.rd (65537 : Int) (4 : Int)) :
    Int) == (131074 : Int)) = true → ((0 : Int) ≤ (0 : Int) ∧ (0 : Int) < (↑l0 : Int) ∧ a0.isSome = true) ∧ Seen IntKind.u64 W (addOpt a0 (Int.toNat (0 : Int))) ∧ ((-9223372036854775808
    : Int) ≤ (↑z.val.k : Int) + (1 : Int) ∧ (↑z.val.k : Int) + (1 : Int) ≤ (9223372036854775807 : Int)) ∧ ∃ (z_1 : (Emb.mk { s : FS // FtOk l1 s ∧ s.held = true } FY.r0).Z), l1 -
    ((Emb.mk { s : FS // FtOk l1 s ∧ s.held = true } FY.r0).e z_1).s.k < l1 - ((Emb.mk { s : FS // FtOk l1 s ∧ s.held = true } FY.r0).e z).s.k ∧ a0 = a0 ∧ l0 = l0 ∧ c0 = c0 ∧ a1 = a1 ∧
    l1 = l1 ∧ c1 = c1 ∧ (↑l1 : Int) = (↑l1 : Int) ∧ W = W ∧ (65537 : Int) = (65537 : Int) ∧ z_1.val.held = ((↑((z.val.A.write (0 : Int) (0 : Int) (seenInt IntKind.u64 W (addOpt a0
    ((↑z.val.k : Int) % (↑l0 : Int)).toNat))).rd (0 : Int) (0 : Int)) : Int) == seenInt IntKind.u64 W (addOpt a0 (0 : Nat))) ∧ (↑z_1.val.k : Int) = (↑z.val.k : Int) + (1 : Int) ∧ XO.ar
    z_1.val.A = XO.ar (z.val.A.write (0 : Int) (0 : Int) (seenInt IntKind.u64 W (addOpt a0 ((↑z.val.k : Int) % (↑l0 : Int)).toNat))).read.read.read ∧ ((((0 : Nat) = (0 : Nat) ∧ True) ∧
    True) ∧ (0 : Nat) = (0 : Nat) ∧ (65537 : Int) = (65537 : Int) ∧ (0 : Int) = (0 : Int) ∧ seenInt IntKind.u64 W (addOpt a0 (0 : Nat)) = seenInt IntKind.u64 W (addOpt a0 (0 : Nat)) ∧
    (131074 : Int) = (131074 : Int) ∧ (2 : Int) = (2 : Int) ∧ True ∧ (0 : Int) = (0 : Int) ∧ True) ∧ True) ∧ (((↑((z.val.A.write (0 : Int) (0 : Int) (seenInt IntKind.u64 W (addOpt a0
    ((↑z.val.k : Int) % (↑l0 : Int)).toNat))).read.read.rd (65537 : Int) (4 : Int)) : Int) == (131074 : Int)) = false → ((-9223372036854775808 : Int) ≤ (↑z.val.k : Int) + (1 : Int) ∧
    (↑z.val.k : Int) + (1 : Int) ≤ (9223372036854775807 : Int)) ∧ ∃ (z_1 : (Emb.mk { s : FS // FtOk l1 s ∧ s.held = true } FY.r0).Z), l1 - ((Emb.mk { s : FS // FtOk l1 s ∧ s.held = true
    } FY.r0).e z_1).s.k < l1 - ((Emb.mk { s : FS // FtOk l1 s ∧ s.held = true } FY.r0).e z).s.k ∧ a0 = a0 ∧ l0 = l0 ∧ c0 = c0 ∧ a1 = a1 ∧ l1 = l1 ∧ c1 = c1 ∧ (↑l1 : Int) = (↑l1 : Int) ∧
    W = W ∧ (65537 : Int) = (65537 : Int) ∧ z_1.val.held = false ∧ (↑z_1.val.k : Int) = (↑z.val.k : Int) + (1 : Int) ∧ XO.ar z_1.val.A = XO.ar (z.val.A.write (0 : Int) (0 : Int)
    (seenInt IntKind.u64 W (addOpt a0 ((↑z.val.k : Int) % (↑l0 : Int)).toNat))).read.read.read ∧ ((((0 : Nat) = (0 : Nat) ∧ True) ∧ True) ∧ (0 : Nat) = (0 : Nat) ∧ (65537 : Int) =
    (65537 : Int) ∧ (0 : Int) = (0 : Int) ∧ seenInt IntKind.u64 W (addOpt a0 (0 : Nat)) = seenInt IntKind.u64 W (addOpt a0 (0 : Nat)) ∧ (131074 : Int) = (131074 : Int) ∧ (2 : Int) = (2
    : Int) ∧ True ∧ (0 : Int) = (0 : Int) ∧ True) ∧ True))) ∧ ((seenInt IntKind.u8 W (addOpt a1 (↑z.val.k : Int).toNat) % (3 : Int) == (0 : Int)) = false → (z.val.A.Has (131074 : Int)
    (0 : Int) ∧ seenInt IntKind.u64 W (addOpt a0 (0 : Nat)) = seenInt IntKind.u64 W (addOpt a0 (0 : Nat)) ∧ W = W ∧ True ∧ True ∧ (1 : Nat) ≤ (1000000000 : Nat) ∧ ∀ (cap : Nat), (1 :
    Nat) ≤ cap → z.val.A.read.Has (0 : Int) (0 : Int) ∧ z.val.A.read.read.Has (65537 : Int) (3 : Int) ∧ z.val.A.read.read.read.Has (65537 : Int) (4 : Int) ∧ (z.val.held = true →
    ((-9223372036854775808 : Int) ≤ (↑z.val.k : Int) + (1 : Int) ∧ (↑z.val.k : Int) + (1 : Int) ≤ (9223372036854775807 : Int)) ∧ ∃ (z_1 : (Emb.mk { s : FS // FtOk l1 s ∧ s.held = true ∧
    (1 : Nat) ≤ s.cap } FY.r1).Z), l1 - ((Emb.mk { s : FS // FtOk l1 s ∧ s.held = true ∧ (1 : Nat) ≤ s.cap } FY.r1).e z_1).s.k < l1 - ((Emb.mk { s : FS // FtOk l1 s ∧ s.held = true }
    FY.r0).e z).s.k ∧ a0 = a0 ∧ l0 = l0 ∧ c0 = c0 ∧ a1 = a1 ∧ l1 = l1 ∧ c1 = c1 ∧ (↑l1 : Int) = (↑l1 : Int) ∧ W = W ∧ (65537 : Int) = (65537 : Int) ∧ z_1.val.held = true ∧ (↑z_1.val.k :
    Int) = (↑z.val.k : Int) + (1 : Int) ∧ XO.ar z_1.val.A = XO.ar z.val.A.read.read.read.read ∧ ((((0 : Nat) = (0 : Nat) ∧ True) ∧ True) ∧ (0 : Nat) = (0 : Nat) ∧ (65537 : Int) = (65537
    : Int) ∧ (0 : Int) = (0 : Int) ∧ seenInt IntKind.u64 W (addOpt a0 (0 : Nat)) = seenInt IntKind.u64 W (addOpt a0 (0 : Nat)) ∧ (131074 : Int) = (131074 : Int) ∧ (2 : Int) = (2 : Int)
    ∧ ((0 : Nat) = (0 : Nat) ∧ (1 : Nat) = (1 : Nat) ∧ z_1.val.cap = cap) ∧ (0 : Int) = (0 : Int) ∧ True) ∧ ((1 : Nat) = (1 : Nat) ∧ z_1.val.cap = cap ∧ (1 : Int) = (↑(z.val.A.rd
    (131074 : Int) (0 : Int)) : Int) ∧ True) ∧ True) ∧ (z.val.held = false → (((↑(z.val.A.read.read.read.rd (65537 : Int) (4 : Int)) : Int) == (131074 : Int)) = true → ((0 : Int) ≤ (0 :
    Int) ∧ (0 : Int) < (↑l0 : Int) ∧ a0.isSome = true) ∧ Seen IntKind.u64 W (addOpt a0 (Int.toNat (0 : Int))) ∧ ((-9223372036854775808 : Int) ≤ (↑z.val.k : Int) + (1 : Int) ∧ (↑z.val.k
    : Int) + (1 : Int) ≤ (9223372036854775807 : Int)) ∧ ∃ (z_1 : (Emb.mk { s : FS // FtOk l1 s ∧ s.held = true ∧ (1 : Nat) ≤ s.cap } FY.r1).Z), l1 - ((Emb.mk { s : FS // FtOk l1 s ∧
    s.held = true ∧ (1 : Nat) ≤ s.cap } FY.r1).e z_1).s.k < l1 - ((Emb.mk { s : FS // FtOk l1 s ∧ s.held = true } FY.r0).e z).s.k ∧ a0 = a0 ∧ l0 = l0 ∧ c0 = c0 ∧ a1 = a1 ∧ l1 = l1 ∧ c1
    = c1 ∧ (↑l1 : Int) = (↑l1 : Int) ∧ W = W ∧ (65537 : Int) = (65537 : Int) ∧ z_1.val.held = ((↑(z.val.A.read.rd (0 : Int) (0 : Int)) : Int) == seenInt IntKind.u64 W (addOpt a0 (0 :
    Nat))) ∧ (↑z_1.val.k : Int) = (↑z.val.k : Int) + (1 : Int) ∧ XO.ar z_1.val.A = XO.ar z.val.A.read.read.read.read ∧ ((((0 : Nat) = (0 : Nat) ∧ True) ∧ True) ∧ (0 : Nat) = (0 : Nat) ∧
    (65537 : Int) = (65537 : Int) ∧ (0 : Int) = (0 : Int) ∧ seenInt IntKind.u64 W (addOpt a0 (0 : Nat)) = seenInt IntKind.u64 W (addOpt a0 (0 : Nat)) ∧ (131074 : Int) = (131074 : Int) ∧
    (2 : Int) = (2 : Int) ∧ ((0 : Nat) = (0 : Nat) ∧ (1 : Nat) = (1 : Nat) ∧ z_1.val.cap = cap) ∧ (0 : Int) = (0 : Int) ∧ True) ∧ ((1 : Nat) = (1 : Nat) ∧ z_1.val.cap = cap ∧ (1 : Int)
    = (↑(z.val.A.rd (131074 : Int) (0 : Int)) : Int) ∧ True) ∧ True) ∧ (((↑(z.val.A.read.read.read.rd (65537 : Int) (4 : Int)) : Int) == (131074 : Int)) = false → ((-9223372036854775808
    : Int) ≤ (↑z.val.k : Int) + (1 : Int) ∧ (↑z.val.k : Int) + (1 : Int) ≤ (9223372036854775807 : Int)) ∧ ∃ (z_1 : (Emb.mk { s : FS // FtOk l1 s ∧ s.held = true ∧ (1 : Nat) ≤ s.cap }
    FY.r1).Z), l1 - ((Emb.mk { s : FS // FtOk l1 s ∧ s.held = true ∧ (1 : Nat) ≤ s.cap } FY.r1).e z_1).s.k < l1 - ((Emb.mk { s : FS // FtOk l1 s ∧ s.held = true } FY.r0).e z).s.k ∧ a0 =
    a0 ∧ l0 = l0 ∧ c0 = c0 ∧ a1 = a1 ∧ l1 = l1 ∧ c1 = c1 ∧ (↑l1 : Int) = (↑l1 : Int) ∧ W = W ∧ (65537 : Int) = (65537 : Int) ∧ z_1.val.held = false ∧ (↑z_1.val.k : Int) = (↑z.val.k :
    Int) + (1 : Int) ∧ XO.ar z_1.val.A = XO.ar z.val.A.read.read.read.read ∧ ((((0 : Nat) = (0 : Nat) ∧ True) ∧ True) ∧ (0 : Nat) = (0 : Nat) ∧ (65537 : Int) = (65537 : Int) ∧ (0 : Int)
    = (0 : Int) ∧ seenInt IntKind.u64 W (addOpt a0 (0 : Nat)) = seenInt IntKind.u64 W (addOpt a0 (0 : Nat)) ∧ (131074 : Int) = (131074 : Int) ∧ (2 : Int) = (2 : Int) ∧ ((0 : Nat) = (0 :
    Nat) ∧ (1 : Nat) = (1 : Nat) ∧ z_1.val.cap = cap) ∧ (0 : Int) = (0 : Int) ∧ True) ∧ ((1 : Nat) = (1 : Nat) ∧ z_1.val.cap = cap ∧ (1 : Int) = (↑(z.val.A.rd (131074 : Int) (0 : Int))
    : Int) ∧ True) ∧ True))) ∧ True)) ∧ (decide ((↑z.val.k : Int) < (↑l1 : Int)) = false → true = true ∧ some W = some W)) ∧ (∀ (z : (Emb.mk { s : FS // FtOk l1 s ∧ s.held = true ∧ (1 :
    Nat) ≤ s.cap } FY.r1).Z) (ρ : Nat → Value), (decide ((↑z.val.k : Int) < (↑l1 : Int)) = true → ((0 : Int) ≤ (↑z.val.k : Int) ∧ (↑z.val.k : Int) < (↑l1 : Int) ∧ a1.isSome = true) ∧
    Seen IntKind.u8 W (addOpt a1 (↑z.val.k : Int).toNat) ∧ ((seenInt IntKind.u8 W (addOpt a1 (↑z.val.k : Int).toNat) % (3 : Int) == (0 : Int)) = true → ((0 : Int) ≤ (↑z.val.k : Int) ∧
    (0 : Int) < (↑l0 : Int)) ∧ ((0 : Int) ≤ (↑z.val.k : Int) % (↑l0 : Int) ∧ (↑z.val.k : Int) % (↑l0 : Int) < (↑l0 : Int) ∧ a0.isSome = true) ∧ Seen IntKind.u64 W (addOpt a0 ((↑z.val.k
    : Int) % (↑l0 : Int)).toNat) ∧ z.val.A.Has (0 : Int) (0 : Int) ∧ ((0 : Int) ≤ seenInt IntKind.u64 W (addOpt a0 ((↑z.val.k : Int) % (↑l0 : Int)).toNat) ∧ seenInt IntKind.u64 W
    (addOpt a0 ((↑z.val.k : Int) % (↑l0 : Int)).toNat) < (18446744073709551616 : Int)) ∧ (z.val.A.write (0 : Int) (0 : Int) (seenInt IntKind.u64 W (addOpt a0 ((↑z.val.k : Int) % (↑l0 :
    Int)).toNat))).Has (0 : Int) (0 : Int) ∧ (z.val.A.write (0 : Int) (0 : Int) (seenInt IntKind.u64 W (addOpt a0 ((↑z.val.k : Int) % (↑l0 : Int)).toNat))).read.Has (65537 : Int) (3 :
    Int) ∧ (z.val.A.write (0 : Int) (0 : Int) (seenInt IntKind.u64 W (addOpt a0 ((↑z.val.k : Int) % (↑l0 : Int)).toNat))).read.read.Has (65537 : Int) (4 : Int) ∧ (z.val.held = true →
    ((-9223372036854775808 : Int) ≤ (↑z.val.k : Int) + (1 : Int) ∧ (↑z.val.k : Int) + (1 : Int) ≤ (9223372036854775807 : Int)) ∧ ∃ (z_1 : (Emb.mk { s : FS // FtOk l1 s ∧ s.held = true ∧
    (1 : Nat) ≤ s.cap } FY.r1).Z), l1 - ((Emb.mk { s : FS // FtOk l1 s ∧ s.held = true ∧ (1 : Nat) ≤ s.cap } FY.r1).e z_1).s.k < l1 - ((Emb.mk { s : FS // FtOk l1 s ∧ s.held = true ∧ (1
    : Nat) ≤ s.cap } FY.r1).e z).s.k ∧ a0 = a0 ∧ l0 = l0 ∧ c0 = c0 ∧ a1 = a1 ∧ l1 = l1 ∧ c1 = c1 ∧ (↑l1 : Int) = (↑l1 : Int) ∧ W = W ∧ (65537 : Int) = (65537 : Int) ∧ z_1.val.held =
    true ∧ (↑z_1.val.k : Int) = (↑z.val.k : Int) + (1 : Int) ∧ XO.ar z_1.val.A = XO.ar (z.val.A.write (0 : Int) (0 : Int) (seenInt IntKind.u64 W (addOpt a0 ((↑z.val.k : Int) % (↑l0 :
    Int)).toNat))).read.read.read ∧ ((((0 : Nat) = (0 : Nat) ∧ True) ∧ True) ∧ (0 : Nat) = (0 : Nat) ∧ (65537 : Int) = (65537 : Int) ∧ (0 : Int) = (0 : Int) ∧ seenInt IntKind.u64 W
    (addOpt a0 (0 : Nat)) = seenInt IntKind.u64 W (addOpt a0 (0 : Nat)) ∧ (131074 : Int) = (131074 : Int) ∧ (2 : Int) = (2 : Int) ∧ ((0 : Nat) = (0 : Nat) ∧ (1 : Nat) = (1 : Nat) ∧
    z_1.val.cap = z.val.cap) ∧ (0 : Int) = (0 : Int) ∧ True) ∧ ((1 : Nat) = (1 : Nat) ∧ z_1.val.cap = z.val.cap ∧ (1 : Int) = (1 : Int) ∧ True) ∧ True) ∧ (z.val.held = false →
    (((↑((z.val.A.write (0 : Int) (0 : Int) (seenInt IntKind.u64 W (addOpt a0 ((↑z.val.k : Int) % (↑l0 : Int)).toNat))).read.read.rd (65537 : Int) (4 : Int)) : Int) == (131074 : Int)) =
    true → ((0 : Int) ≤ (0 : Int) ∧ (0 : Int) < (↑l0 : Int) ∧ a0.isSome = true) ∧ Seen IntKind.u64 W (addOpt a0 (Int.toNat (0 : Int))) ∧ ((-9223372036854775808 : Int) ≤ (↑z.val.k : Int)
    + (1 : Int) ∧ (↑z.val.k : Int) + (1 : Int) ≤ (9223372036854775807 : Int)) ∧ ∃ (z_1 : (Emb.mk { s : FS // FtOk l1 s ∧ s.held = true ∧ (1 : Nat) ≤ s.cap } FY.r1).Z), l1 - ((Emb.mk { s
    : FS // FtOk l1 s ∧ s.held = true ∧ (1 : Nat) ≤ s.cap } FY.r1).e z_1).s.k < l1 - ((Emb.mk { s : FS // FtOk l1 s ∧ s.held = true ∧ (1 : Nat) ≤ s.cap } FY.r1).e z).s.k ∧ a0 = a0 ∧ l0
    = l0 ∧ c0 = c0 ∧ a1 = a1 ∧ l1 = l1 ∧ c1 = c1 ∧ (↑l1 : Int) = (↑l1 : Int) ∧ W = W ∧ (65537 : Int) = (65537 : Int) ∧ z_1.val.held = ((↑((z.val.A.write (0 : Int) (0 : Int) (seenInt
    IntKind.u64 W (addOpt a0 ((↑z.val.k : Int) % (↑l0 : Int)).toNat))).rd (0 : Int) (0 : Int)) : Int) == seenInt IntKind.u64 W (addOpt a0 (0 : Nat))) ∧ (↑z_1.val.k : Int) = (↑z.val.k :
    Int) + (1 : Int) ∧ XO.ar z_1.val.A = XO.ar (z.val.A.write (0 : Int) (0 : Int) (seenInt IntKind.u64 W (addOpt a0 ((↑z.val.k : Int) % (↑l0 : Int)).toNat))).read.read.read ∧ ((((0 :
    Nat) = (0 : Nat) ∧ True) ∧ True) ∧ (0 : Nat) = (0 : Nat) ∧ (65537 : Int) = (65537 : Int) ∧ (0 : Int) = (0 : Int) ∧ seenInt IntKind.u64 W (addOpt a0 (0 : Nat)) = seenInt IntKind.u64
    W (addOpt a0 (0 : Nat)) ∧ (131074 : Int) = (131074 : Int) ∧ (2 : Int) = (2 : Int) ∧ ((0 : Nat) = (0 : Nat) ∧ (1 : Nat) = (1 : Nat) ∧ z_1.val.cap = z.val.cap) ∧ (0 : Int) = (0 : Int)
    ∧ True) ∧ ((1 : Nat) = (1 : Nat) ∧ z_1.val.cap = z.val.cap ∧ (1 : Int) = (1 : Int) ∧ True) ∧ True) ∧ (((↑((z.val.A.write (0 : Int) (0 : Int) (seenInt IntKind.u64 W (addOpt a0
    ((↑z.val.k : Int) % (↑l0 : Int)).toNat))).read.read.rd (65537 : Int) (4 : Int)) : Int) == (131074 : Int)) = false → ((-9223372036854775808 : Int) ≤ (↑z.val.k : Int) + (1 : Int) ∧
    (↑z.val.k : Int) + (1 : Int) ≤ (9223372036854775807 : Int)) ∧ ∃ (z_1 : (Emb.mk { s : FS // FtOk l1 s ∧ s.held = true ∧ (1 : Nat) ≤ s.cap } FY.r1).Z), l1 - ((Emb.mk { s : FS // FtOk
    l1 s ∧ s.held = true ∧ (1 : Nat) ≤ s.cap } FY.r1).e z_1).s.k < l1 - ((Emb.mk { s : FS // FtOk l1 s ∧ s.held = true ∧ (1 : Nat) ≤ s.cap } FY.r1).e z).s.k ∧ a0 = a0 ∧ l0 = l0 ∧ c0 =
    c0 ∧ a1 = a1 ∧ l1 = l1 ∧ c1 = c1 ∧ (↑l1 : Int) = (↑l1 : Int) ∧ W = W ∧ (65537 : Int) = (65537 : Int) ∧ z_1.val.held = false ∧ (↑z_1.val.k : Int) = (↑z.val.k : Int) + (1 : Int) ∧
    XO.ar z_1.val.A = XO.ar (z.val.A.write (0 : Int) (0 : Int) (seenInt IntKind.u64 W (addOpt a0 ((↑z.val.k : Int) % (↑l0 : Int)).toNat))).read.read.read ∧ ((((0 : Nat) = (0 : Nat) ∧
    True) ∧ True) ∧ (0 : Nat) = (0 : Nat) ∧ (65537 : Int) = (65537 : Int) ∧ (0 : Int) = (0 : Int) ∧ seenInt IntKind.u64 W (addOpt a0 (0 : Nat)) = seenInt IntKind.u64 W (addOpt a0 (0 :
    Nat)) ∧ (131074 : Int) = (131074 : Int) ∧ (2 : Int) = (2 : Int) ∧ ((0 : Nat) = (0 : Nat) ∧ (1 : Nat) = (1 : Nat) ∧ z_1.val.cap = z.val.cap) ∧ (0 : Int) = (0 : Int) ∧ True) ∧ ((1 :
    Nat) = (1 : Nat) ∧ z_1.val.cap = z.val.cap ∧ (1 : Int) = (1 : Int) ∧ True) ∧ True))) ∧ ((seenInt IntKind.u8 W (addOpt a1 (↑z.val.k : Int).toNat) % (3 : Int) == (0 : Int)) = false →
    (z.val.A.Has (131074 : Int) (1 : Int) ∧ seenInt IntKind.u64 W (addOpt a0 (0 : Nat)) = seenInt IntKind.u64 W (addOpt a0 (0 : Nat)) ∧ (0 : Nat) = (0 : Nat) ∧ z.val.cap = z.val.cap ∧
    z.val.cap = z.val.cap ∧ W = W ∧ z.val.cap = z.val.cap ∧ True ∧ (2 : Nat) ≤ (1000000000 : Nat) ∧ ∀ (cap : Nat), (2 : Nat) ≤ cap → z.val.A.read.Has (0 : Int) (0 : Int) ∧
    z.val.A.read.read.Has (65537 : Int) (3 : Int) ∧ z.val.A.read.read.read.Has (65537 : Int) (4 : Int) ∧ (z.val.held = true → ((-9223372036854775808 : Int) ≤ (↑z.val.k : Int) + (1 :
    Int) ∧ (↑z.val.k : Int) + (1 : Int) ≤ (9223372036854775807 : Int)) ∧ ∃ (z_1 : (Emb.mk { s : FS // FtOk l1 s ∧ s.held = true ∧ (2 : Nat) ≤ s.cap } FY.nw).Z), l1 - ((Emb.mk { s : FS
    // FtOk l1 s ∧ s.held = true ∧ (2 : Nat) ≤ s.cap } FY.nw).e z_1).s.k < l1 - ((Emb.mk { s : FS // FtOk l1 s ∧ s.held = true ∧ (1 : Nat) ≤ s.cap } FY.r1).e z).s.k ∧ a0 = a0 ∧ l0 = l0
    ∧ c0 = c0 ∧ a1 = a1 ∧ l1 = l1 ∧ c1 = c1 ∧ (↑l1 : Int) = (↑l1 : Int) ∧ W = W ∧ (65537 : Int) = (65537 : Int) ∧ z_1.val.held = true ∧ (↑z_1.val.k : Int) = (↑z.val.k : Int) + (1 : Int)
    ∧ XO.ar z_1.val.A = XO.ar z.val.A.read.read.read.read ∧ (Value.nilFunc = Value.nilFunc ∧ (0 : Nat) = (0 : Nat) ∧ (65537 : Int) = (65537 : Int) ∧ (0 : Int) = (0 : Int) ∧ seenInt
    IntKind.u64 W (addOpt a0 (0 : Nat)) = seenInt IntKind.u64 W (addOpt a0 (0 : Nat)) ∧ (131074 : Int) = (131074 : Int) ∧ (2 : Int) = (2 : Int) ∧ ((0 : Nat) = (0 : Nat) ∧ (2 : Nat) = (2
    : Nat) ∧ z_1.val.cap = cap) ∧ (1 : Int) = (1 : Int) ∧ True) ∧ ((2 : Nat) = (2 : Nat) ∧ z_1.val.cap = cap ∧ (1 : Int) = (1 : Int) ∧ (2 : Int) = (↑(z.val.A.rd (131074 : Int) (1 :
    Int)) : Int) ∧ True) ∧ True) ∧ (z.val.held = false → (((↑(z.val.A.read.read.read.rd (65537 : Int) (4 : Int)) : Int) == (131074 : Int)) = true → ((0 : Int) ≤ (0 : Int) ∧ (0 : Int) <
    (↑l0 : Int) ∧ a0.isSome = true) ∧ Seen IntKind.u64 W (addOpt a0 (Int.toNat (0 : Int))) ∧ ((-9223372036854775808 : Int) ≤ (↑z.val.k : Int) + (1 : Int) ∧ (↑z.val.k : Int) + (1 : Int)
    ≤ (9223372036854775807 : Int)) ∧ ∃ (z_1 : (Emb.mk { s : FS // FtOk l1 s ∧ s.held = true ∧ (2 : Nat) ≤ s.cap } FY.nw).Z), l1 - ((Emb.mk { s : FS // FtOk l1 s ∧ s.held = true ∧ (2 :
    Nat) ≤ s.cap } FY.nw).e z_1).s.k < l1 - ((Emb.mk { s : FS // FtOk l1 s ∧ s.held = true ∧ (1 : Nat) ≤ s.cap } FY.r1).e z).s.k ∧ a0 = a0 ∧ l0 = l0 ∧ c0 = c0 ∧ a1 = a1 ∧ l1 = l1 ∧ c1 =
    c1 ∧ (↑l1 : Int) = (↑l1 : Int) ∧ W = W ∧ (65537 : Int) = (65537 : Int) ∧ z_1.val.held = ((↑(z.val.A.read.rd (0 : Int) (0 : Int)) : Int) == seenInt IntKind.u64 W (addOpt a0 (0 :
    Nat))) ∧ (↑z_1.val.k : Int) = (↑z.val.k : Int) + (1 : Int) ∧ XO.ar z_1.val.A = XO.ar z.val.A.read.read.read.read ∧ (Value.nilFunc = Value.nilFunc ∧ (0 : Nat) = (0 : Nat) ∧ (65537 :
    Int) = (65537 : Int) ∧ (0 : Int) = (0 : Int) ∧ seenInt IntKind.u64 W (addOpt a0 (0 : Nat)) = seenInt IntKind.u64 W (addOpt a0 (0 : Nat)) ∧ (131074 : Int) = (131074 : Int) ∧ (2 :
    Int) = (2 : Int) ∧ ((0 : Nat) = (0 : Nat) ∧ (2 : Nat) = (2 : Nat) ∧ z_1.val.cap = cap) ∧ (1 : Int) = (1 : Int) ∧ True) ∧ ((2 : Nat) = (2 : Nat) ∧ z_1.val.cap = cap ∧ (1 : Int) = (1
    : Int) ∧ (2 : Int) = (↑(z.val.A.rd (131074 : Int) (1 : Int)) : Int) ∧ True) ∧ True) ∧ (((↑(z.val.A.read.read.read.rd (65537 : Int) (4 : Int)) : Int) == (131074 : Int)) = false →
    ((-9223372036854775808 : Int) ≤ (↑z.val.k : Int) + (1 : Int) ∧ (↑z.val.k : Int) + (1 : Int) ≤ (9223372036854775807 : Int)) ∧ ∃ (z_1 : (Emb.mk { s : FS // FtOk l1 s ∧ s.held = true ∧
    (2 : Nat) ≤ s.cap } FY.nw).Z), l1 - ((Emb.mk { s : FS // FtOk l1 s ∧ s.held = true ∧ (2 : Nat) ≤ s.cap } FY.nw).e z_1).s.k < l1 - ((Emb.mk { s : FS // FtOk l1 s ∧ s.held = true ∧ (1
    : Nat) ≤ s.cap } FY.r1).e z).s.k ∧ a0 = a0 ∧ l0 = l0 ∧ c0 = c0 ∧ a1 = a1 ∧ l1 = l1 ∧ c1 = c1 ∧ (↑l1 : Int) = (↑l1 : Int) ∧ W = W ∧ (65537 : Int) = (65537 : Int) ∧ z_1.val.held =
    false ∧ (↑z_1.val.k : Int) = (↑z.val.k : Int) + (1 : Int) ∧ XO.ar z_1.val.A = XO.ar z.val.A.read.read.read.read ∧ (Value.nilFunc = Value.nilFunc ∧ (0 : Nat) = (0 : Nat) ∧ (65537 :
    Int) = (65537 : Int) ∧ (0 : Int) = (0 : Int) ∧ seenInt IntKind.u64 W (addOpt a0 (0 : Nat)) = seenInt IntKind.u64 W (addOpt a0 (0 : Nat)) ∧ (131074 : Int) = (131074 : Int) ∧ (2 :
    Int) = (2 : Int) ∧ ((0 : Nat) = (0 : Nat) ∧ (2 : Nat) = (2 : Nat) ∧ z_1.val.cap = cap) ∧ (1 : Int) = (1 : Int) ∧ True) ∧ ((2 : Nat) = (2 : Nat) ∧ z_1.val.cap = cap ∧ (1 : Int) = (1
    : Int) ∧ (2 : Int) = (↑(z.val.A.rd (131074 : Int) (1 : Int)) : Int) ∧ True) ∧ True))) ∧ True)) ∧ (decide ((↑z.val.k : Int) < (↑l1 : Int)) = false → true = true ∧ some W = some W)) ∧
    (∀ (z : (Emb.mk { s : FS // FtOk l1 s ∧ s.held = true ∧ (2 : Nat) ≤ s.cap } FY.nw).Z) (ρ : Nat → Value), (decide ((↑z.val.k : Int) < (↑l1 : Int)) = true → ((0 : Int) ≤ (↑z.val.k :
    Int) ∧ (↑z.val.k : Int) < (↑l1 : Int) ∧ a1.isSome = true) ∧ Seen IntKind.u8 W (addOpt a1 (↑z.val.k : Int).toNat) ∧ ((seenInt IntKind.u8 W (addOpt a1 (↑z.val.k : Int).toNat) % (3 :
    Int) == (0 : Int)) = true → ((0 : Int) ≤ (↑z.val.k : Int) ∧ (0 : Int) < (↑l0 : Int)) ∧ ((0 : Int) ≤ (↑z.val.k : Int) % (↑l0 : Int) ∧ (↑z.val.k : Int) % (↑l0 : Int) < (↑l0 : Int) ∧
    a0.isSome = true) ∧ Seen IntKind.u64 W (addOpt a0 ((↑z.val.k : Int) % (↑l0 : Int)).toNat) ∧ z.val.A.Has (0 : Int) (0 : Int) ∧ ((0 : Int) ≤ seenInt IntKind.u64 W (addOpt a0
    ((↑z.val.k : Int) % (↑l0 : Int)).toNat) ∧ seenInt IntKind.u64 W (addOpt a0 ((↑z.val.k : Int) % (↑l0 : Int)).toNat) < (18446744073709551616 : Int)) ∧ (z.val.A.write (0 : Int) (0 :
    Int) (seenInt IntKind.u64 W (addOpt a0 ((↑z.val.k : Int) % (↑l0 : Int)).toNat))).Has (0 : Int) (0 : Int) ∧ (z.val.A.write (0 : Int) (0 : Int) (seenInt IntKind.u64 W (addOpt a0
    ((↑z.val.k : Int) % (↑l0 : Int)).toNat))).read.Has (65537 : Int) (3 : Int) ∧ (z.val.A.write (0 : Int) (0 : Int) (seenInt IntKind.u64 W (addOpt a0 ((↑z.val.k : Int) % (↑l0 :
    Int)).toNat))).read.read.Has (65537 : Int) (4 : Int) ∧ (z.val.held = true → ((-9223372036854775808 : Int) ≤ (↑z.val.k : Int) + (1 : Int) ∧ (↑z.val.k : Int) + (1 : Int) ≤
    (9223372036854775807 : Int)) ∧ ∃ (z_1 : (Emb.mk { s : FS // FtOk l1 s ∧ s.held = true ∧ (2 : Nat) ≤ s.cap } FY.nw).Z), l1 - ((Emb.mk { s : FS // FtOk l1 s ∧ s.held = true ∧ (2 :
    Nat) ≤ s.cap } FY.nw).e z_1).s.k < l1 - ((Emb.mk { s : FS // FtOk l1 s ∧ s.held = true ∧ (2 : Nat) ≤ s.cap } FY.nw).e z).s.k ∧ a0 = a0 ∧ l0 = l0 ∧ c0 = c0 ∧ a1 = a1 ∧ l1 = l1 ∧ c1 =
    c1 ∧ (↑l1 : Int) = (↑l1 : Int) ∧ W = W ∧ (65537 : Int) = (65537 : Int) ∧ z_1.val.held = true ∧ (↑z_1.val.k : Int) = (↑z.val.k : Int) + (1 : Int) ∧ XO.ar z_1.val.A = XO.ar
    (z.val.A.write (0 : Int) (0 : Int) (seenInt IntKind.u64 W (addOpt a0 ((↑z.val.k : Int) % (↑l0 : Int)).toNat))).read.read.read ∧ (Value.nilFunc = Value.nilFunc ∧ (0 : Nat) = (0 :
    Nat) ∧ (65537 : Int) = (65537 : Int) ∧ (0 : Int) = (0 : Int) ∧ seenInt IntKind.u64 W (addOpt a0 (0 : Nat)) = seenInt IntKind.u64 W (addOpt a0 (0 : Nat)) ∧ (131074 : Int) = (131074 :
    Int) ∧ (2 : Int) = (2 : Int) ∧ ((0 : Nat) = (0 : Nat) ∧ (2 : Nat) = (2 : Nat) ∧ z_1.val.cap = z.val.cap) ∧ (1 : Int) = (1 : Int) ∧ True) ∧ ((2 : Nat) = (2 : Nat) ∧ z_1.val.cap =
    z.val.cap ∧ (1 : Int) = (1 : Int) ∧ (2 : Int) = (2 : Int) ∧ True) ∧ True) ∧ (z.val.held = false → (((↑((z.val.A.write (0 : Int) (0 : Int) (seenInt IntKind.u64 W (addOpt a0
    ((↑z.val.k : Int) % (↑l0 : Int)).toNat))).read.read.rd (65537 : Int) (4 : Int)) : Int) == (131074 : Int)) = true → ((0 : Int) ≤ (0 : Int) ∧ (0 : Int) < (↑l0 : Int) ∧ a0.isSome =
    true) ∧ Seen IntKind.u64 W (addOpt a0 (Int.toNat (0 : Int))) ∧ ((-9223372036854775808 : Int) ≤ (↑z.val.k : Int) + (1 : Int) ∧ (↑z.val.k : Int) + (1 : Int) ≤ (9223372036854775807 :
    Int)) ∧ ∃ (z_1 : (Emb.mk { s : FS // FtOk l1 s ∧ s.held = true ∧ (2 : Nat) ≤ s.cap } FY.nw).Z), l1 - ((Emb.mk { s : FS // FtOk l1 s ∧ s.held = true ∧ (2 : Nat) ≤ s.cap } FY.nw).e
    z_1).s.k < l1 - ((Emb.mk { s : FS // FtOk l1 s ∧ s.held = true ∧ (2 : Nat) ≤ s.cap } FY.nw).e z).s.k ∧ a0 = a0 ∧ l0 = l0 ∧ c0 = c0 ∧ a1 = a1 ∧ l1 = l1 ∧ c1 = c1 ∧ (↑l1 : Int) = (↑l1
    : Int) ∧ W = W ∧ (65537 : Int) = (65537 : Int) ∧ z_1.val.held = ((↑((z.val.A.write (0 : Int) (0 : Int) (seenInt IntKind.u64 W (addOpt a0 ((↑z.val.k : Int) % (↑l0 : Int)).toNat))).rd
    (0 : Int) (0 : Int)) : Int) == seenInt IntKind.u64 W (addOpt a0 (0 : Nat))) ∧ (↑z_1.val.k : Int) = (↑z.val.k : Int) + (1 : Int) ∧ XO.ar z_1.val.A = XO.ar (z.val.A.write (0 : Int) (0
    : Int) (seenInt IntKind.u64 W (addOpt a0 ((↑z.val.k : Int) % (↑l0 : Int)).toNat))).read.read.read ∧ (Value.nilFunc = Value.nilFunc ∧ (0 : Nat) = (0 : Nat) ∧ (65537 : Int) = (65537 :
    Int) ∧ (0 : Int) = (0 : Int) ∧ seenInt IntKind.u64 W (addOpt a0 (0 : Nat)) = seenInt IntKind.u64 W (addOpt a0 (0 : Nat)) ∧ (131074 : Int) = (131074 : Int) ∧ (2 : Int) = (2 : Int) ∧
    ((0 : Nat) = (0 : Nat) ∧ (2 : Nat) = (2 : Nat) ∧ z_1.val.cap = z.val.cap) ∧ (1 : Int) = (1 : Int) ∧ True) ∧ ((2 : Nat) = (2 : Nat) ∧ z_1.val.cap = z.val.cap ∧ (1 : Int) = (1 : Int)
    ∧ (2 : Int) = (2 : Int) ∧ True) ∧ True) ∧ (((↑((z.val.A.write (0 : Int) (0 : Int) (seenInt IntKind.u64 W (addOpt a0 ((↑z.val.k : Int) % (↑l0 : Int)).toNat))).read.read.rd (65537 :
    Int) (4 : Int)) : Int) == (131074 : Int)) = false → ((-9223372036854775808 : Int) ≤ (↑z.val.k : Int) + (1 : Int) ∧ (↑z.val.k : Int) + (1 : Int) ≤ (9223372036854775807 : Int)) ∧ ∃
    (z_1 : (Emb.mk { s : FS // FtOk l1 s ∧ s.held = true ∧ (2 : Nat) ≤ s.cap } FY.nw).Z), l1 - ((Emb.mk { s : FS // FtOk l1 s ∧ s.held = true ∧ (2 : Nat) ≤ s.cap } FY.nw).e z_1).s.k <
    l1 - ((Emb.mk { s : FS // FtOk l1 s ∧ s.held = true ∧ (2 : Nat) ≤ s.cap } FY.nw).e z).s.k ∧ a0 = a0 ∧ l0 = l0 ∧ c0 = c0 ∧ a1 = a1 ∧ l1 = l1 ∧ c1 = c1 ∧ (↑l1 : Int) = (↑l1 : Int) ∧ W
    = W ∧ (65537 : Int) = (65537 : Int) ∧ z_1.val.held = false ∧ (↑z_1.val.k : Int) = (↑z.val.k : Int) + (1 : Int) ∧ XO.ar z_1.val.A = XO.ar (z.val.A.write (0 : Int) (0 : Int) (seenInt
    IntKind.u64 W (addOpt a0 ((↑z.val.k : Int) % (↑l0 : Int)).toNat))).read.read.read ∧ (Value.nilFunc = Value.nilFunc ∧ (0 : Nat) = (0 : Nat) ∧ (65537 : Int) = (65537 : Int) ∧ (0 :
    Int) = (0 : Int) ∧ seenInt IntKind.u64 W (addOpt a0 (0 : Nat)) = seenInt IntKind.u64 W (addOpt a0 (0 : Nat)) ∧ (131074 : Int) = (131074 : Int) ∧ (2 : Int) = (2 : Int) ∧ ((0 : Nat) =
    (0 : Nat) ∧ (2 : Nat) = (2 : Nat) ∧ z_1.val.cap = z.val.cap) ∧ (1 : Int) = (1 : Int) ∧ True) ∧ ((2 : Nat) = (2 : Nat) ∧ z_1.val.cap = z.val.cap ∧ (1 : Int) = (1 : Int) ∧ (2 : Int) =
    (2 : Int) ∧ True) ∧ True))) ∧ ((seenInt IntKind.u8 W (addOpt a1 (↑z.val.k : Int).toNat) % (3 : Int) == (0 : Int)) = false → z.val.A.Has (0 : Int) (0 : Int) ∧ z.val.A.read.Has (65537
    : Int) (3 : Int) ∧ z.val.A.read.read.Has (65537 : Int) (4 : Int) ∧ (z.val.held = true → ((-9223372036854775808 : Int) ≤ (↑z.val.k : Int) + (1 : Int) ∧ (↑z.val.k : Int) + (1 : Int) ≤
    (9223372036854775807 : Int)) ∧ ∃ (z_1 : (Emb.mk { s : FS // FtOk l1 s ∧ s.held = true ∧ (2 : Nat) ≤ s.cap } FY.nw).Z), l1 - ((Emb.mk { s : FS // FtOk l1 s ∧ s.held = true ∧ (2 :
    Nat) ≤ s.cap } FY.nw).e z_1).s.k < l1 - ((Emb.mk { s : FS // FtOk l1 s ∧ s.held = true ∧ (2 : Nat) ≤ s.cap } FY.nw).e z).s.k ∧ a0 = a0 ∧ l0 = l0 ∧ c0 = c0 ∧ a1 = a1 ∧ l1 = l1 ∧ c1 =
    c1 ∧ (↑l1 : Int) = (↑l1 : Int) ∧ W = W ∧ (65537 : Int) = (65537 : Int) ∧ z_1.val.held = true ∧ (↑z_1.val.k : Int) = (↑z.val.k : Int) + (1 : Int) ∧ XO.ar z_1.val.A = XO.ar
    z.val.A.read.read.read ∧ (Value.nilFunc = Value.nilFunc ∧ (0 : Nat) = (0 : Nat) ∧ (65537 : Int) = (65537 : Int) ∧ (0 : Int) = (0 : Int) ∧ seenInt IntKind.u64 W (addOpt a0 (0 : Nat))
    = seenInt IntKind.u64 W (addOpt a0 (0 : Nat)) ∧ (131074 : Int) = (131074 : Int) ∧ (2 : Int) = (2 : Int) ∧ ((0 : Nat) = (0 : Nat) ∧ (2 : Nat) = (2 : Nat) ∧ z_1.val.cap = z.val.cap) ∧
    (1 : Int) = (1 : Int) ∧ True) ∧ ((2 : Nat) = (2 : Nat) ∧ z_1.val.cap = z.val.cap ∧ (1 : Int) = (1 : Int) ∧ (2 : Int) = (2 : Int) ∧ True) ∧ True) ∧ (z.val.held = false →
    (((↑(z.val.A.read.read.rd (65537 : Int) (4 : Int)) : Int) == (131074 : Int)) = true → ((0 : Int) ≤ (0 : Int) ∧ (0 : Int) < (↑l0 : Int) ∧ a0.isSome = true) ∧ Seen IntKind.u64 W
    (addOpt a0 (Int.toNat (0 : Int))) ∧ ((-9223372036854775808 : Int) ≤ (↑z.val.k : Int) + (1 : Int) ∧ (↑z.val.k : Int) + (1 : Int) ≤ (9223372036854775807 : Int)) ∧ ∃ (z_1 : (Emb.mk { s
    : FS // FtOk l1 s ∧ s.held = true ∧ (2 : Nat) ≤ s.cap } FY.nw).Z), l1 - ((Emb.mk { s : FS // FtOk l1 s ∧ s.held = true ∧ (2 : Nat) ≤ s.cap } FY.nw).e z_1).s.k < l1 - ((Emb.mk { s :
    FS // FtOk l1 s ∧ s.held = true ∧ (2 : Nat) ≤ s.cap } FY.nw).e z).s.k ∧ a0 = a0 ∧ l0 = l0 ∧ c0 = c0 ∧ a1 = a1 ∧ l1 = l1 ∧ c1 = c1 ∧ (↑l1 : Int) = (↑l1 : Int) ∧ W = W ∧ (65537 : Int)
    = (65537 : Int) ∧ z_1.val.held = ((↑(z.val.A.rd (0 : Int) (0 : Int)) : Int) == seenInt IntKind.u64 W (addOpt a0 (0 : Nat))) ∧ (↑z_1.val.k : Int) = (↑z.val.k : Int) + (1 : Int) ∧
    XO.ar z_1.val.A = XO.ar z.val.A.read.read.read ∧ (Value.nilFunc = Value.nilFunc ∧ (0 : Nat) = (0 : Nat) ∧ (65537 : Int) = (65537 : Int) ∧ (0 : Int) = (0 : Int) ∧ seenInt IntKind.u64
    W (addOpt a0 (0 : Nat)) = seenInt IntKind.u64 W (addOpt a0 (0 : Nat)) ∧ (131074 : Int) = (131074 : Int) ∧ (2 : Int) = (2 : Int) ∧ ((0 : Nat) = (0 : Nat) ∧ (2 : Nat) = (2 : Nat) ∧
    z_1.val.cap = z.val.cap) ∧ (1 : Int) = (1 : Int) ∧ True) ∧ ((2 : Nat) = (2 : Nat) ∧ z_1.val.cap = z.val.cap ∧ (1 : Int) = (1 : Int) ∧ (2 : Int) = (2 : Int) ∧ True) ∧ True) ∧
    (((↑(z.val.A.read.read.rd (65537 : Int) (4 : Int)) : Int) == (131074 : Int)) = false → ((-9223372036854775808 : Int) ≤ (↑z.val.k : Int) + (1 : Int) ∧ (↑z.val.k : Int) + (1 : Int) ≤
    (9223372036854775807 : Int)) ∧ ∃ (z_1 : (Emb.mk { s : FS // FtOk l1 s ∧ s.held = true ∧ (2 : Nat) ≤ s.cap } FY.nw).Z), l1 - ((Emb.mk { s : FS // FtOk l1 s ∧ s.held = true ∧ (2 :
    Nat) ≤ s.cap } FY.nw).e z_1).s.k < l1 - ((Emb.mk { s : FS // FtOk l1 s ∧ s.held = true ∧ (2 : Nat) ≤ s.cap } FY.nw).e z).s.k ∧ a0 = a0 ∧ l0 = l0 ∧ c0 = c0 ∧ a1 = a1 ∧ l1 = l1 ∧ c1 =
    c1 ∧ (↑l1 : Int) = (↑l1 : Int) ∧ W = W ∧ (65537 : Int) = (65537 : Int) ∧ z_1.val.held = false ∧ (↑z_1.val.k : Int) = (↑z.val.k : Int) + (1 : Int) ∧ XO.ar z_1.val.A = XO.ar
    z.val.A.read.read.read ∧ (Value.nilFunc = Value.nilFunc ∧ (0 : Nat) = (0 : Nat) ∧ (65537 : Int) = (65537 : Int) ∧ (0 : Int) = (0 : Int) ∧ seenInt IntKind.u64 W (addOpt a0 (0 : Nat))
    = seenInt IntKind.u64 W (addOpt a0 (0 : Nat)) ∧ (131074 : Int) = (131074 : Int) ∧ (2 : Int) = (2 : Int) ∧ ((0 : Nat) = (0 : Nat) ∧ (2 : Nat) = (2 : Nat) ∧ z_1.val.cap = z.val.cap) ∧
    (1 : Int) = (1 : Int) ∧ True) ∧ ((2 : Nat) = (2 : Nat) ∧ z_1.val.cap = z.val.cap ∧ (1 : Int) = (1 : Int) ∧ (2 : Int) = (2 : Int) ∧ True) ∧ True)))) ∧ (decide ((↑z.val.k : Int) <
    (↑l1 : Int)) = false → (z.val.held = true → True ∧ True ∧ (2 : Nat) ≤ (1000000000 : Nat) ∧ ∀ (cap : Nat), (2 : Nat) ≤ cap → true = true ∧ some W = some W) ∧ (z.val.held = false →
    false = true ∧ some W = some W))) ∧ (∀ (z : (Emb.mk { s : FS // FtOk l1 s } FY.nc).Z) (ρ : Nat → Value), (decide ((↑z.val.k : Int) < (↑l1 : Int)) = true → ((0 : Int) ≤ (↑z.val.k :
    Int) ∧ (↑z.val.k : Int) < (↑l1 : Int) ∧ a1.isSome = true) ∧ Seen IntKind.u8 W (addOpt a1 (↑z.val.k : Int).toNat) ∧ ((seenInt IntKind.u8 W (addOpt a1 (↑z.val.k : Int).toNat) % (3 :
    Int) == (0 : Int)) = true → ((0 : Int) ≤ (↑z.val.k : Int) ∧ (0 : Int) < (↑l0 : Int)) ∧ ((0 : Int) ≤ (↑z.val.k : Int) % (↑l0 : Int) ∧ (↑z.val.k : Int) % (↑l0 : Int) < (↑l0 : Int) ∧
    a0.isSome = true) ∧ Seen IntKind.u64 W (addOpt a0 ((↑z.val.k : Int) % (↑l0 : Int)).toNat) ∧ z.val.A.Has (0 : Int) (0 : Int) ∧ ((0 : Int) ≤ seenInt IntKind.u64 W (addOpt a0
    ((↑z.val.k : Int) % (↑l0 : Int)).toNat) ∧ seenInt IntKind.u64 W (addOpt a0 ((↑z.val.k : Int) % (↑l0 : Int)).toNat) < (18446744073709551616 : Int)) ∧ (z.val.A.write (0 : Int) (0 :
    Int) (seenInt IntKind.u64 W (addOpt a0 ((↑z.val.k : Int) % (↑l0 : Int)).toNat))).Has (0 : Int) (0 : Int) ∧ (z.val.A.write (0 : Int) (0 : Int) (seenInt IntKind.u64 W (addOpt a0
    ((↑z.val.k : Int) % (↑l0 : Int)).toNat))).read.Has (65537 : Int) (3 : Int) ∧ (z.val.A.write (0 : Int) (0 : Int) (seenInt IntKind.u64 W (addOpt a0 ((↑z.val.k : Int) % (↑l0 :
    Int)).toNat))).read.read.Has (65537 : Int) (4 : Int) ∧ (z.val.held = true → ((-9223372036854775808 : Int) ≤ (↑z.val.k : Int) + (1 : Int) ∧ (↑z.val.k : Int) + (1 : Int) ≤
    (9223372036854775807 : Int)) ∧ ∃ (z_1 : (Emb.mk { s : FS // FtOk l1 s } FY.nc).Z), l1 - ((Emb.mk { s : FS // FtOk l1 s } FY.nc).e z_1).s.k < l1 - ((Emb.mk { s : FS // FtOk l1 s }
    FY.nc).e z).s.k ∧ a0 = a0 ∧ l0 = l0 ∧ c0 = c0 ∧ a1 = a1 ∧ l1 = l1 ∧ c1 = c1 ∧ (↑l1 : Int) = (↑l1 : Int) ∧ W = W ∧ (65537 : Int) = (65537 : Int) ∧ z_1.val.held = true ∧ (↑z_1.val.k :
    Int) = (↑z.val.k : Int) + (1 : Int) ∧ XO.ar z_1.val.A = XO.ar (z.val.A.write (0 : Int) (0 : Int) (seenInt IntKind.u64 W (addOpt a0 ((↑z.val.k : Int) % (↑l0 :
    Int)).toNat))).read.read.read ∧ (Value.nilFunc = Value.nilFunc ∧ (0 : Nat) = (0 : Nat) ∧ (65537 : Int) = (65537 : Int) ∧ (0 : Int) = (0 : Int) ∧ seenInt IntKind.u64 W (addOpt a0 (0
    : Nat)) = seenInt IntKind.u64 W (addOpt a0 (0 : Nat)) ∧ (131074 : Int) = (131074 : Int) ∧ (2 : Int) = (2 : Int) ∧ True ∧ (2 : Int) = (2 : Int) ∧ True) ∧ True) ∧ (z.val.held = false
    → (((↑((z.val.A.write (0 : Int) (0 : Int) (seenInt IntKind.u64 W (addOpt a0 ((↑z.val.k : Int) % (↑l0 : Int)).toNat))).read.read.rd (65537 : Int) (4 : Int)) : Int) == (131074 : Int))
    = true → ((0 : Int) ≤ (0 : Int) ∧ (0 : Int) < (↑l0 : Int) ∧ a0.isSome = true) ∧ Seen IntKind.u64 W (addOpt a0 (Int.toNat (0 : Int))) ∧ ((-9223372036854775808 : Int) ≤ (↑z.val.k :
    Int) + (1 : Int) ∧ (↑z.val.k : Int) + (1 : Int) ≤ (9223372036854775807 : Int)) ∧ ∃ (z_1 : (Emb.mk { s : FS // FtOk l1 s } FY.nc).Z), l1 - ((Emb.mk { s : FS // FtOk l1 s } FY.nc).e
    z_1).s.k < l1 - ((Emb.mk { s : FS // FtOk l1 s } FY.nc).e z).s.k ∧ a0 = a0 ∧ l0 = l0 ∧ c0 = c0 ∧ a1 = a1 ∧ l1 = l1 ∧ c1 = c1 ∧ (↑l1 : Int) = (↑l1 : Int) ∧ W = W ∧ (65537 : Int) =
    (65537 : Int) ∧ z_1.val.held = ((↑((z.val.A.write (0 : Int) (0 : Int) (seenInt IntKind.u64 W (addOpt a0 ((↑z.val.k : Int) % (↑l0 : Int)).toNat))).rd (0 : Int) (0 : Int)) : Int) ==
    seenInt IntKind.u64 W (addOpt a0 (0 : Nat))) ∧ (↑z_1.val.k : Int) = (↑z.val.k : Int) + (1 : Int) ∧ XO.ar z_1.val.A = XO.ar (z.val.A.write (0 : Int) (0 : Int) (seenInt IntKind.u64 W
    (addOpt a0 ((↑z.val.k : Int) % (↑l0 : Int)).toNat))).read.read.read ∧ (Value.nilFunc = Value.nilFunc ∧ (0 : Nat) = (0 : Nat) ∧ (65537 : Int) = (65537 : Int) ∧ (0 : Int) = (0 : Int)
    ∧ seenInt IntKind.u64 W (addOpt a0 (0 : Nat)) = seenInt IntKind.u64 W (addOpt a0 (0 : Nat)) ∧ (131074 : Int) = (131074 : Int) ∧ (2 : Int) = (2 : Int) ∧ True ∧ (2 : Int) = (2 : Int)
    ∧ True) ∧ True) ∧ (((↑((z.val.A.write (0 : Int) (0 : Int) (seenInt IntKind.u64 W (addOpt a0 ((↑z.val.k : Int) % (↑l0 : Int)).toNat))).read.read.rd (65537 : Int) (4 : Int)) : Int) ==
    (131074 : Int)) = false → ((-9223372036854775808 : Int) ≤ (↑z.val.k : Int) + (1 : Int) ∧ (↑z.val.k : Int) + (1 : Int) ≤ (9223372036854775807 : Int)) ∧ ∃ (z_1 : (Emb.mk { s : FS //
    FtOk l1 s } FY.nc).Z), l1 - ((Emb.mk { s : FS // FtOk l1 s } FY.nc).e z_1).s.k < l1 - ((Emb.mk { s : FS // FtOk l1 s } FY.nc).e z).s.k ∧ a0 = a0 ∧ l0 = l0 ∧ c0 = c0 ∧ a1 = a1 ∧ l1 =
    l1 ∧ c1 = c1 ∧ (↑l1 : Int) = (↑l1 : Int) ∧ W = W ∧ (65537 : Int) = (65537 : Int) ∧ z_1.val.held = false ∧ (↑z_1.val.k : Int) = (↑z.val.k : Int) + (1 : Int) ∧ XO.ar z_1.val.A = XO.ar
    (z.val.A.write (0 : Int) (0 : Int) (seenInt IntKind.u64 W (addOpt a0 ((↑z.val.k : Int) % (↑l0 : Int)).toNat))).read.read.read ∧ (Value.nilFunc = Value.nilFunc ∧ (0 : Nat) = (0 :
    Nat) ∧ (65537 : Int) = (65537 : Int) ∧ (0 : Int) = (0 : Int) ∧ seenInt IntKind.u64 W (addOpt a0 (0 : Nat)) = seenInt IntKind.u64 W (addOpt a0 (0 : Nat)) ∧ (131074 : Int) = (131074 :
    Int) ∧ (2 : Int) = (2 : Int) ∧ True ∧ (2 : Int) = (2 : Int) ∧ True) ∧ True))) ∧ ((seenInt IntKind.u8 W (addOpt a1 (↑z.val.k : Int).toNat) % (3 : Int) == (0 : Int)) = false →
    z.val.A.Has (0 : Int) (0 : Int) ∧ z.val.A.read.Has (65537 : Int) (3 : Int) ∧ z.val.A.read.read.Has (65537 : Int) (4 : Int) ∧ (z.val.held = true → ((-9223372036854775808 : Int) ≤
    (↑z.val.k : Int) + (1 : Int) ∧ (↑z.val.k : Int) + (1 : Int) ≤ (9223372036854775807 : Int)) ∧ ∃ (z_1 : (Emb.mk { s : FS // FtOk l1 s } FY.nc).Z), l1 - ((Emb.mk { s : FS // FtOk l1 s
    } FY.nc).e z_1).s.k < l1 - ((Emb.mk { s : FS // FtOk l1 s } FY.nc).e z).s.k ∧ a0 = a0 ∧ l0 = l0 ∧ c0 = c0 ∧ a1 = a1 ∧ l1 = l1 ∧ c1 = c1 ∧ (↑l1 : Int) = (↑l1 : Int) ∧ W = W ∧ (65537
    : Int) = (65537 : Int) ∧ z_1.val.held = true ∧ (↑z_1.val.k : Int) = (↑z.val.k : Int) + (1 : Int) ∧ XO.ar z_1.val.A = XO.ar z.val.A.read.read.read ∧ (Value.nilFunc = Value.nilFunc ∧
    (0 : Nat) = (0 : Nat) ∧ (65537 : Int) = (65537 : Int) ∧ (0 : Int) = (0 : Int) ∧ seenInt IntKind.u64 W (addOpt a0 (0 : Nat)) = seenInt IntKind.u64 W (addOpt a0 (0 : Nat)) ∧ (131074 :
    Int) = (131074 : Int) ∧ (2 : Int) = (2 : Int) ∧ True ∧ (2 : Int) = (2 : Int) ∧ True) ∧ True) ∧ (z.val.held = false → (((↑(z.val.A.read.read.rd (65537 : Int) (4 : Int)) : Int) ==
    (131074 : Int)) = true → ((0 : Int) ≤ (0 : Int) ∧ (0 : Int) < (↑l0 : Int) ∧ a0.isSome = true) ∧ Seen IntKind.u64 W (addOpt a0 (Int.toNat (0 : Int))) ∧ ((-9223372036854775808 : Int)
    ≤ (↑z.val.k : Int) + (1 : Int) ∧ (↑z.val.k : Int) + (1 : Int) ≤ (9223372036854775807 : Int)) ∧ ∃ (z_1 : (Emb.mk { s : FS // FtOk l1 s } FY.nc).Z), l1 - ((Emb.mk { s : FS // FtOk l1
    s } FY.nc).e z_1).s.k < l1 - ((Emb.mk { s : FS // FtOk l1 s } FY.nc).e z).s.k ∧ a0 = a0 ∧ l0 = l0 ∧ c0 = c0 ∧ a1 = a1 ∧ l1 = l1 ∧ c1 = c1 ∧ (↑l1 : Int) = (↑l1 : Int) ∧ W = W ∧
    (65537 : Int) = (65537 : Int) ∧ z_1.val.held = ((↑(z.val.A.rd (0 : Int) (0 : Int)) : Int) == seenInt IntKind.u64 W (addOpt a0 (0 : Nat))) ∧ (↑z_1.val.k : Int) = (↑z.val.k : Int) +
    (1 : Int) ∧ XO.ar z_1.val.A = XO.ar z.val.A.read.read.read ∧ (Value.nilFunc = Value.nilFunc ∧ (0 : Nat) = (0 : Nat) ∧ (65537 : Int) = (65537 : Int) ∧ (0 : Int) = (0 : Int) ∧ seenInt
    IntKind.u64 W (addOpt a0 (0 : Nat)) = seenInt IntKind.u64 W (addOpt a0 (0 : Nat)) ∧ (131074 : Int) = (131074 : Int) ∧ (2 : Int) = (2 : Int) ∧ True ∧ (2 : Int) = (2 : Int) ∧ True) ∧
    True) ∧ (((↑(z.val.A.read.read.rd (65537 : Int) (4 : Int)) : Int) == (131074 : Int)) = false → ((-9223372036854775808 : Int) ≤ (↑z.val.k : Int) + (1 : Int) ∧ (↑z.val.k : Int) + (1 :
    Int) ≤ (9223372036854775807 : Int)) ∧ ∃ (z_1 : (Emb.mk { s : FS // FtOk l1 s } FY.nc).Z), l1 - ((Emb.mk { s : FS // FtOk l1 s } FY.nc).e z_1).s.k < l1 - ((Emb.mk { s : FS // FtOk l1
    s } FY.nc).e z).s.k ∧ a0 = a0 ∧ l0 = l0 ∧ c0 = c0 ∧ a1 = a1 ∧ l1 = l1 ∧ c1 = c1 ∧ (↑l1 : Int) = (↑l1 : Int) ∧ W = W ∧ (65537 : Int) = (65537 : Int) ∧ z_1.val.held = false ∧
    (↑z_1.val.k : Int) = (↑z.val.k : Int) + (1 : Int) ∧ XO.ar z_1.val.A = XO.ar z.val.A.read.read.read ∧ (Value.nilFunc = Value.nilFunc ∧ (0 : Nat) = (0 : Nat) ∧ (65537 : Int) = (65537
    : Int) ∧ (0 : Int) = (0 : Int) ∧ seenInt IntKind.u64 W (addOpt a0 (0 : Nat)) = seenInt IntKind.u64 W (addOpt a0 (0 : Nat)) ∧ (131074 : Int) = (131074 : Int) ∧ (2 : Int) = (2 : Int)
    ∧ True ∧ (2 : Int) = (2 : Int) ∧ True) ∧ True)))) ∧ (decide ((↑z.val.k : Int) < (↑l1 : Int)) = false → true = true ∧ some W = some W)) ∧ True) ∧ True) ∧ True)))) := by
  kernel_rfl
theorem holdF (W : World) (a0 a1 : Option Addr) (l0 c0 l1 c1 : Nat) (hs0 : 0 < l0 → a0.isSome = true) (hx0 : ∀ j, j < l0 → Seen .u64 W (addOpt a0 j)) (hs1 : 0 < l1 → a1.isSome = true) (hx1 : ∀ j, j < l1 → Seen .u8 W (addOpt a1 j)) : Run (callN Try.prog tblG (fun _ _ => false) 100 20 4 [.c (.sliv a0 false l0 c0), .c (.sliv a1 false l1 c1), .c (.boo true true)] ⟨[(0, .seen W)], 1⟩ (scriptV l1 (seenInt .u64 W (addOpt a0 0))) (fun v m _ => retSeen W v m)) := by
  constructor
  rw [holdF_vc]
  refine ⟨fun _ => ⟨rfl, rfl⟩, fun hl1 => ⟨fun _ => ⟨rfl, rfl⟩, fun hl0 => ⟨fun _ => ⟨rfl, rfl⟩, fun hl0' v cap z' ad ln cp hS hcap => ?_⟩⟩⟩
  have hp1 : l1 ≤ 100 := by have := of_decide_eq_false hl1; omega
  have hp0 : 0 < l0 := by
    rcases Nat.eq_zero_or_pos l0 with e | e
    · subst e; exact absurd hl0 (by decide)
    · exact e
  have hmod : ∀ k : Nat, ((k : Int) % (l0 : Int)).toNat < l0 := fun k => by
    have := Int.emod_lt_of_pos (k : Int) (show (0 : Int) < (l0 : Int) by omega)
    have := Int.emod_nonneg (k : Int) (show (l0 : Int) ≠ 0 by omega)
    omega
  repeat' first
    | with_reducible apply And.intro
    | with_reducible exact trivial
    | with_reducible exact fun _ h => h
    | exact embsF_cover
    | (intro z; have hz : FtOk l1 z.1 := z.2)
    | (intro z; have hz : FtOk l1 z.1 := z.2.1; have hz2 := z.2.2)
    | (intro hk; have hlt : (z.1.k : Int) < (l1 : Int) := of_decide_eq_true hk; have hltn : z.1.k < l1 := by omega)
    | intro _
    | with_reducible exact Eq.refl _
  any_goals first
    | apply Exists.intro (Subtype.mk (FS.mk (z.1.k + 1) _ _ _) _)
    | apply Exists.intro (Subtype.mk (FS.mk 0 _ _ _) _)
  repeat' first
    | with_reducible apply And.intro
    | with_reducible exact trivial
    | with_reducible exact fun _ h => h
    | intro _
    | with_reducible exact Eq.refl _
  any_goals exact (0 : Nat)
  repeat' first
    | omega
    | with_reducible exact has_fixed0 _
    | with_reducible exact seen64_0 _ _
    | with_reducible exact seen64_1 _ _
    | with_reducible exact HInv.start _ _ (seen64_0 _ _) (seen64_1 _ _)
    | with_reducible exact hz.inv
    | with_reducible exact hz.inv.h3
    | with_reducible exact hz.inv.h4
    | with_reducible apply HInv.rd
    | with_reducible apply HInv.root
    | with_reducible apply HInv.hold
    | with_reducible apply FtOk.next hz hlt
    | with_reducible apply FtOk.zero
    | with_reducible apply And.intro
    | exact Nat.sub_lt_sub_left hltn (Nat.lt_succ_self z.1.k)
    | with_reducible exact hx0 _ ‹_›
    | with_reducible exact hx1 _ ‹_›
    | exact hx0 _ hp0
    | exact hx0 _ (hmod _)
    | exact hx1 _ hltn
    | exact hs0 hp0
    | exact hs1 (by omega)
    | exact hs0 ‹_›
    | exact hs1 ‹_›
    | (with_reducible show (segA [v]).births < 268435455; exact of_decide_eq_true (by kernel_rfl))
    | (with_reducible show (segA [v]).used + 2 ≤ (segA [v]).cap; exact of_decide_eq_true (by kernel_rfl))
    | (show ((z.1.k + 1 : Nat) : Int) = (z.1.k : Int) + 1; rfl)
    | (show ((0 : Nat) : Int) = 0; rfl)
    | exact Int.emod_lt_of_pos _ (by omega)
    | with_reducible exact rd4_rootR hz2
    | with_reducible exact rd4_holdR hz.inv
    | (rw [hz.inv.v0]; rfl)
    | (rw [hz.inv.v1]; rfl)
    | with_reducible exact hz2.2
    | with_reducible assumption
    | with_reducible rfl
    | exact absurd (hz2.symm.trans ‹z.1.held = false›) (by decide)
    | exact absurd (hz2.1.symm.trans ‹z.1.held = false›) (by decide)
    | exact absurd hz2 (beq_eq_false_iff_ne.1 ‹_›)
    | (show ((z.1.A.rd 0 0 : Int) == seenInt .u64 W (addOpt a0 0)) = true; exact beq_iff_eq.2 (bne_eq_false_iff_eq.1 ‹((z.1.A.rd 0 0 : Int) != seenInt .u64 W (addOpt a0 0)) = false›))
    | with_reducible apply HInv.b0
    | with_reducible apply HInv.b1
    | with_reducible apply HInv.h3
    | with_reducible apply HInv.h4
end Go.Proofs.Ytgiakcepgbpchaa
