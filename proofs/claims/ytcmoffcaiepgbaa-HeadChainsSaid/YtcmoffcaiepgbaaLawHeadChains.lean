/- HeadChains: for all entries the law returns true and turns nothing; condition: the entries are read as numbers. -/
import Derived.Test.YtcmoffcaiepgbaaBaseF
import Derived.Test.YtcmoffcaiepgbaaBaseG
import Derived.Test.YtcmoffcaiepgbaaBaseH
set_option linter.all false
namespace Go.Proofs.Ytcmoffcaiepgbaa
open Go Go.RowKit
set_option maxRecDepth 1000000
set_option maxHeartbeats 0
def tblC9 : List (Smry Try.prog XE) := [firstS 34 (fun W => by have h := law_trueR first09 W; exact h), newX, layX false, hlistC, hhandlesC, hentwS, wordsX]
/-- An entry's slot and note, as they were handed in. -/
def eS (W : World) (a : Option Addr) (i : Nat) : Int := seenInt .i64 W (addOpt (addOpt a (i * 3)) 0)
def eN (W : World) (a : Option Addr) (i : Nat) : Int := seenInt .u64 W (addOpt (addOpt a (i * 3)) 1)
structure CS where
  k : Nat
  A : Ar
  cap : Nat
inductive CY (W : World) (a : Option Addr) (len : Nat) where
  | z (x : {s : CS // HC (eS W a) (eN W a) len s.A 0})
  | s (x : {s : CS // HC (eS W a) (eN W a) len s.A s.k ∧ 0 < s.k ∧ s.k ≤ len})
def CY.k {W : World} {a : Option Addr} {len : Nat} : CY W a len → Nat
  | .z _ => 0
  | .s x => x.1.k
def embsC (W : World) (a : Option Addr) (len : Nat) : List (Emb (CY W a len)) := [⟨_, CY.z⟩, ⟨_, CY.s⟩]
theorem embsC_cover {W : World} {a : Option Addr} {len : Nat} (y : CY W a len) : coverE y (embsC W a len) := by
  cases y with
  | z x => exact .inl ⟨x, rfl⟩
  | s x => exact .inr (.inl ⟨x, rfl⟩)
/-- The handles, the last laid first. -/
def hsC (k i : Nat) : Int := (((k - i) * 65537 : Nat) : Int)
def invC (W : World) (a : Option Addr) (len : Nat) (n : Nat) : CY W a len → List (Nat × SV) × List (Nat × SO XE)
  | .z x => ([(5, .c (.int true .u64 0)), (6, .c .nls), (7, .c (.int false .i64 ((len : Int) - 1)))], [(13, arO x.1.A)])
  | .s x => ([(5, .c (.int false .u64 ((x.1.k * 65537 : Nat) : Int))), (6, .c (.sli n 1 true 0 false x.1.k x.1.cap)), (7, .c (.int false .i64 ((len : Int) - 1 - (x.1.k : Int))))], [(13, arO x.1.A), (n, .ints 25 .u64 x.1.k x.1.cap (hsC x.1.k))])
def selCh (f : SF) (_ : SH XE) : Nat := match f.at 6 with
  | .c .nls => 0
  | _ => 1
def restC (len : Nat) : Scr XE := .f (.inv (liveL [0, 2, 11, 87, 88]) [] {i : Nat // i ≤ len} (fun _ y => ([(88, .c (.int false .i64 (y.1 : Int)))], [])) (fun y => len - y.1) (fun _ => .both (.f (.f .nil)) .nil))
def endC {W : World} {a : Option Addr} (len : Nat) : CY W a len → Scr XE
  | .z _ => .f (.f .nil)
  | .s _ => restC len
def loopC (W : World) (a : Option Addr) (len : Nat) : Scr XE := .invs (liveL [0, 2, 3, 5, 6, 7]) [13] (CY W a len) (embsC W a len) selCh (invC W a len) (fun y => len - y.k) (fun y => .both .nil (endC len y))
/-- An entry can be read. -/
def EntAt (W : World) (a : Option Addr) (j : Nat) : Prop := Seen .i64 W (addOpt (addOpt a (j * 3)) 0) ∧ Seen .u64 W (addOpt (addOpt a (j * 3)) 1) ∧ Seen .u64 W (addOpt (addOpt a (j * 3)) 2)
theorem eN_le {W : World} {a : Option Addr} {i : Nat} : 0 ≤ eN W a i ∧ eN W a i ≤ 18446744073709551615 := seenInt_bd .u64 W _
theorem hsC_step {k i x : Nat} (hx : x = (k + 1) * 65537) (hi : i < k + 1) : hsC (k + 1) i = if i = 0 then ((x : Nat) : Int) else hsC k (addO true 0 (i - 1)) := by
  rw [addO_eq]
  unfold hsC
  by_cases h : i = 0
  · subst h; rw [if_pos rfl, hx]; rfl
  · rw [if_neg h, show k + 1 - i = k - (0 + (i - 1)) by omega]
theorem hsC_le {k i : Nat} (hk : k ≤ 200) : 0 ≤ hsC k i ∧ hsC k i ≤ 18446744073709551615 := by
  unfold hsC
  constructor <;> omega
theorem entC_ents {S N : Nat → Int} {n k i : Nat} (hi : i < k) (hk : k ≤ n) : entC (entsH S N n k) i = hsC k i := by
  unfold entC hsC
  rw [entsH_get S N n _ k i hi hk]
theorem bne_same {x y : Int} (h : x = y) : (x != y) = false := by
  subst h
  exact bne_self_eq_false x
/-- What the executor leaves to be shown of roundelay/roundelaylaw09.HeadChains, written out. -/
theorem headChains_vc (W : World) (a : Option Addr) (len cap : Nat) : (callN Try.prog (tblC9 : List (Smry Try.prog XE)) (fun _ _ => false) 100 20 10 [.c (.sliv a false len cap)] ⟨[(0, .seen W)], 1⟩ (.both .nil (loopC W a len)) (fun v m _ => retSeen W v m)) = (
    (decide ((↑len : Int) > (200 : Int)) = true → true = true ∧ some W = some W) ∧ (decide ((↑len : Int) > (200 : Int)) = false → ((0 : Int) ≤ (60000 : Int) ∧ (60000 : Int) ≤ (60000 :
    Int)) ∧ ((-9223372036854775808 : Int) ≤ (↑len : Int) - (1 : Int) ∧ (↑len : Int) - (1 : Int) ≤ (9223372036854775807 : Int)) ∧ (∀ (y : CY W a len), (∃ (z : (Emb.mk { s : CS // HC (eS
    W a) (eN W a) len s.A (0 : Nat) } CY.z).Z), CY.z z = y) ∨ (∃ (z : (Emb.mk { s : CS // HC (eS W a) (eN W a) len s.A s.k ∧ (0 : Nat) < s.k ∧ s.k ≤ len } CY.s).Z), CY.s z = y) ∨ False)
    ∧ (∃ (z : (Emb.mk { s : CS // HC (eS W a) (eN W a) len s.A (0 : Nat) } CY.z).Z), a = a ∧ len = len ∧ cap = cap ∧ W = W ∧ (↑len : Int) - (1 : Int) = (↑len : Int) - (1 : Int) ∧ XO.ar
    z.val.A = XO.ar (Ar.new (60000 : Nat)) ∧ True) ∧ (∀ (z : (Emb.mk { s : CS // HC (eS W a) (eN W a) len s.A (0 : Nat) } CY.z).Z) (ρ : Nat → Value), (decide ((↑len : Int) - (1 : Int) ≥
    (0 : Int)) = true → ((0 : Int) ≤ (↑len : Int) - (1 : Int) ∧ (↑len : Int) - (1 : Int) < (↑len : Int) ∧ a.isSome = true) ∧ ((∃ (x : Addr), addOpt (addOpt a (((↑len : Int) - (1 :
    Int)).toNat * Try.prog.types[(77 : Nat)].size)) (0 : Nat) = some x ∧ W.cell? x = some (Value.int IntKind.i64 (seenInt IntKind.i64 W (addOpt (addOpt a (((↑len : Int) - (1 :
    Int)).toNat * (3 : Nat))) (0 : Nat))))) ∧ (∃ (x : Addr), addOpt (addOpt a (((↑len : Int) - (1 : Int)).toNat * Try.prog.types[(77 : Nat)].size)) ((0 : Nat) + (1 : Nat)) = some x ∧
    W.cell? x = some (Value.int IntKind.u64 (seenInt IntKind.u64 W (addOpt (addOpt a (((↑len : Int) - (1 : Int)).toNat * (3 : Nat))) (1 : Nat))))) ∧ (∃ (x : Addr), addOpt (addOpt a
    (((↑len : Int) - (1 : Int)).toNat * Try.prog.types[(77 : Nat)].size)) ((0 : Nat) + (1 : Nat) + (1 : Nat)) = some x ∧ W.cell? x = some (Value.int IntKind.u64 (seenInt IntKind.u64 W
    (addOpt (addOpt a (((↑len : Int) - (1 : Int)).toNat * (3 : Nat))) (2 : Nat))))) ∧ True) ∧ (((0 : Int) ≤ seenInt IntKind.u64 W (addOpt (addOpt a (((↑len : Int) - (1 : Int)).toNat *
    (3 : Nat))) (1 : Nat)) ∧ seenInt IntKind.u64 W (addOpt (addOpt a (((↑len : Int) - (1 : Int)).toNat * (3 : Nat))) (1 : Nat)) ≤ (18446744073709551615 : Int)) ∧ (0 : Int) ≤ (0 : Int) ∧
    (0 : Int) ≤ (18446744073709551615 : Int)) ∧ (∀ (z : Un), entB (seenInt IntKind.i64 W (addOpt (addOpt a (((↑len : Int) - (1 : Int)).toNat * (3 : Nat))) (0 : Nat))) (seenInt
    IntKind.u64 W (addOpt (addOpt a (((↑len : Int) - (1 : Int)).toNat * (3 : Nat))) (1 : Nat))) (0 : Int) = false → true = true ∧ some W = some W) ∧ (∀ (z_1 : Un), entB (seenInt
    IntKind.i64 W (addOpt (addOpt a (((↑len : Int) - (1 : Int)).toNat * (3 : Nat))) (0 : Nat))) (seenInt IntKind.u64 W (addOpt (addOpt a (((↑len : Int) - (1 : Int)).toNat * (3 : Nat)))
    (1 : Nat))) (0 : Int) = true → (3 : Nat) = (3 : Nat) ∧ (3 : Nat) = (3 : Nat) ∧ ((1 : Nat) ≤ (3 : Nat) ∧ (3 : Nat) ≤ (2048 : Nat)) ∧ z.val.A.used + (3 : Nat) ≤ z.val.A.cap ∧
    z.val.A.s.back = [] ∧ z.val.A.births < (268435455 : Nat) ∧ (((0 : Int) ≤ seenInt IntKind.i64 W (addOpt (addOpt a (((↑len : Int) - (1 : Int)).toNat * (3 : Nat))) (0 : Nat)) ∧ seenInt
    IntKind.i64 W (addOpt (addOpt a (((↑len : Int) - (1 : Int)).toNat * (3 : Nat))) (0 : Nat)) ≤ (18446744073709551615 : Int)) ∧ ((0 : Int) ≤ seenInt IntKind.u64 W (addOpt (addOpt a
    (((↑len : Int) - (1 : Int)).toNat * (3 : Nat))) (1 : Nat)) ∧ seenInt IntKind.u64 W (addOpt (addOpt a (((↑len : Int) - (1 : Int)).toNat * (3 : Nat))) (1 : Nat)) ≤
    (18446744073709551615 : Int)) ∧ ((0 : Int) ≤ (0 : Int) ∧ (0 : Int) ≤ (18446744073709551615 : Int)) ∧ True) ∧ ∀ (v : Value), True ∧ ((-9223372036854775808 : Int) ≤ (↑len : Int) - (1
    : Int) - (1 : Int) ∧ (↑len : Int) - (1 : Int) - (1 : Int) ≤ (9223372036854775807 : Int)) ∧ ∃ (z_2 : (Emb.mk { s : CS // HC (eS W a) (eN W a) len s.A s.k ∧ (0 : Nat) < s.k ∧ s.k ≤
    len } CY.s).Z), len - (CY.s z_2).k < len - (CY.z z).k ∧ a = a ∧ len = len ∧ cap = cap ∧ W = W ∧ (↑(z_2.val.k * (65537 : Nat)) : Int) = (↑(layH z.val.A) : Int) ∧ (0 : Nat) = (0 :
    Nat) ∧ z_2.val.k = (1 : Nat) ∧ z_2.val.cap = (1 : Nat) ∧ (↑len : Int) - (1 : Int) - (↑z_2.val.k : Int) = (↑len : Int) - (1 : Int) - (1 : Int) ∧ XO.ar z_2.val.A = XO.ar (z.val.A.lay
    [(seenInt IntKind.i64 W (addOpt (addOpt a (((↑len : Int) - (1 : Int)).toNat * (3 : Nat))) (0 : Nat))).toNat, (seenInt IntKind.u64 W (addOpt (addOpt a (((↑len : Int) - (1 :
    Int)).toNat * (3 : Nat))) (1 : Nat))).toNat, (0 : Nat)] v) ∧ (z_2.val.k = (1 : Nat) ∧ z_2.val.cap = (1 : Nat) ∧ (1 : Nat) ≤ (1000000000 : Nat) ∧ hsC z_2.val.k (0 : Nat) = (↑(layH
    z.val.A) : Int) ∧ True) ∧ True) ∧ True) ∧ (decide ((↑len : Int) - (1 : Int) ≥ (0 : Int)) = false → ((0 : Int) ≤ (0 : Int) ∧ (0 : Int) < (18446744073709551616 : Int)) ∧
    z.val.A.s.back.length ≤ (70000 : Nat) ∧ (some ([] : List Ent) = none → ((0 : Int) ≤ (0 : Int) ∧ (0 : Int) < (18446744073709551616 : Int)) ∧ z.val.A.s.back.length ≤ (70000 : Nat) ∧
    (some ([] : List Ent) = none → false = true ∧ some W = some W) ∧ (some ([] : List Ent) = some [] → false = true ∧ some W = some W) ∧ ∀ (l : List Ent), some ([] : List Ent) = some l
    → ∀ (cap : Nat), l.length ≤ cap → false = true ∧ some W = some W) ∧ (some ([] : List Ent) = some [] → ((0 : Int) ≤ (0 : Int) ∧ (0 : Int) < (18446744073709551616 : Int)) ∧
    z.val.A.s.back.length ≤ (70000 : Nat) ∧ (some ([] : List Ent) = none → false = true ∧ some W = some W) ∧ (some ([] : List Ent) = some [] → ((0 : Int) != (↑len : Int)) = false ∧ ((1
    : Int) = (1 : Int) → decide ((0 : Int) < (↑len : Int)) = false ∧ true = true ∧ some W = some W) ∧ ((1 : Int) = (0 : Int) → false = true ∧ some W = some W)) ∧ ∀ (l : List Ent), some
    ([] : List Ent) = some l → ∀ (cap : Nat), l.length ≤ cap → ((0 : Int) != (↑len : Int)) = false ∧ l.length = l.length ∧ cap = cap ∧ l.length ≤ (1000000000 : Nat) ∧ (∀ (i : Nat), i <
    l.length → (0 : Int) ≤ entC l i ∧ entC l i ≤ (18446744073709551615 : Int)) ∧ (weqF l.length (entC l) (0 : Nat) z0 = (1 : Int) → decide ((0 : Int) < (↑len : Int)) = false ∧ true =
    true ∧ some W = some W) ∧ (weqF l.length (entC l) (0 : Nat) z0 = (0 : Int) → false = true ∧ some W = some W)) ∧ ∀ (l : List Ent), some ([] : List Ent) = some l → ∀ (cap : Nat),
    l.length ≤ cap → ((0 : Int) ≤ (0 : Int) ∧ (0 : Int) < (18446744073709551616 : Int)) ∧ z.val.A.s.back.length ≤ (70000 : Nat) ∧ (some ([] : List Ent) = none → false = true ∧ some W =
    some W) ∧ (some ([] : List Ent) = some [] → ((↑l.length : Int) != (↑len : Int)) = false ∧ ((1 : Int) = (1 : Int) → decide ((0 : Int) < (↑len : Int)) = false ∧ true = true ∧ some W =
    some W) ∧ ((1 : Int) = (0 : Int) → false = true ∧ some W = some W)) ∧ ∀ (l_1 : List Ent), some ([] : List Ent) = some l_1 → ∀ (cap : Nat), l_1.length ≤ cap → ((↑l.length : Int) !=
    (↑len : Int)) = false ∧ l_1.length = l_1.length ∧ cap = cap ∧ l_1.length ≤ (1000000000 : Nat) ∧ (∀ (i : Nat), i < l_1.length → (0 : Int) ≤ entC l_1 i ∧ entC l_1 i ≤
    (18446744073709551615 : Int)) ∧ (weqF l_1.length (entC l_1) (0 : Nat) z0 = (1 : Int) → decide ((0 : Int) < (↑len : Int)) = false ∧ true = true ∧ some W = some W) ∧ (weqF l_1.length
    (entC l_1) (0 : Nat) z0 = (0 : Int) → false = true ∧ some W = some W))) ∧ (∀ (z : (Emb.mk { s : CS // HC (eS W a) (eN W a) len s.A s.k ∧ (0 : Nat) < s.k ∧ s.k ≤ len } CY.s).Z) (ρ :
    Nat → Value), (decide ((↑len : Int) - (1 : Int) - (↑z.val.k : Int) ≥ (0 : Int)) = true → ((0 : Int) ≤ (↑len : Int) - (1 : Int) - (↑z.val.k : Int) ∧ (↑len : Int) - (1 : Int) -
    (↑z.val.k : Int) < (↑len : Int) ∧ a.isSome = true) ∧ ((∃ (x : Addr), addOpt (addOpt a (((↑len : Int) - (1 : Int) - (↑z.val.k : Int)).toNat * Try.prog.types[(77 : Nat)].size)) (0 :
    Nat) = some x ∧ W.cell? x = some (Value.int IntKind.i64 (seenInt IntKind.i64 W (addOpt (addOpt a (((↑len : Int) - (1 : Int) - (↑z.val.k : Int)).toNat * (3 : Nat))) (0 : Nat))))) ∧
    (∃ (x : Addr), addOpt (addOpt a (((↑len : Int) - (1 : Int) - (↑z.val.k : Int)).toNat * Try.prog.types[(77 : Nat)].size)) ((0 : Nat) + (1 : Nat)) = some x ∧ W.cell? x = some
    (Value.int IntKind.u64 (seenInt IntKind.u64 W (addOpt (addOpt a (((↑len : Int) - (1 : Int) - (↑z.val.k : Int)).toNat * (3 : Nat))) (1 : Nat))))) ∧ (∃ (x : Addr), addOpt (addOpt a
    (((↑len : Int) - (1 : Int) - (↑z.val.k : Int)).toNat * Try.prog.types[(77 : Nat)].size)) ((0 : Nat) + (1 : Nat) + (1 : Nat)) = some x ∧ W.cell? x = some (Value.int IntKind.u64
    (seenInt IntKind.u64 W (addOpt (addOpt a (((↑len : Int) - (1 : Int) - (↑z.val.k : Int)).toNat * (3 : Nat))) (2 : Nat))))) ∧ True) ∧ (((0 : Int) ≤ seenInt IntKind.u64 W (addOpt
    (addOpt a (((↑len : Int) - (1 : Int) - (↑z.val.k : Int)).toNat * (3 : Nat))) (1 : Nat)) ∧ seenInt IntKind.u64 W (addOpt (addOpt a (((↑len : Int) - (1 : Int) - (↑z.val.k :
    Int)).toNat * (3 : Nat))) (1 : Nat)) ≤ (18446744073709551615 : Int)) ∧ (0 : Int) ≤ (↑(z.val.k * (65537 : Nat)) : Int) ∧ (↑(z.val.k * (65537 : Nat)) : Int) ≤ (18446744073709551615 :
    Int)) ∧ (∀ (z_1 : Un), entB (seenInt IntKind.i64 W (addOpt (addOpt a (((↑len : Int) - (1 : Int) - (↑z.val.k : Int)).toNat * (3 : Nat))) (0 : Nat))) (seenInt IntKind.u64 W (addOpt
    (addOpt a (((↑len : Int) - (1 : Int) - (↑z.val.k : Int)).toNat * (3 : Nat))) (1 : Nat))) (↑(z.val.k * (65537 : Nat)) : Int) = false → true = true ∧ some W = some W) ∧ (∀ (z_1 : Un),
    entB (seenInt IntKind.i64 W (addOpt (addOpt a (((↑len : Int) - (1 : Int) - (↑z.val.k : Int)).toNat * (3 : Nat))) (0 : Nat))) (seenInt IntKind.u64 W (addOpt (addOpt a (((↑len : Int)
    - (1 : Int) - (↑z.val.k : Int)).toNat * (3 : Nat))) (1 : Nat))) (↑(z.val.k * (65537 : Nat)) : Int) = true → (3 : Nat) = (3 : Nat) ∧ (3 : Nat) = (3 : Nat) ∧ ((1 : Nat) ≤ (3 : Nat) ∧
    (3 : Nat) ≤ (2048 : Nat)) ∧ z.val.A.used + (3 : Nat) ≤ z.val.A.cap ∧ z.val.A.s.back = [] ∧ z.val.A.births < (268435455 : Nat) ∧ (((0 : Int) ≤ seenInt IntKind.i64 W (addOpt (addOpt a
    (((↑len : Int) - (1 : Int) - (↑z.val.k : Int)).toNat * (3 : Nat))) (0 : Nat)) ∧ seenInt IntKind.i64 W (addOpt (addOpt a (((↑len : Int) - (1 : Int) - (↑z.val.k : Int)).toNat * (3 :
    Nat))) (0 : Nat)) ≤ (18446744073709551615 : Int)) ∧ ((0 : Int) ≤ seenInt IntKind.u64 W (addOpt (addOpt a (((↑len : Int) - (1 : Int) - (↑z.val.k : Int)).toNat * (3 : Nat))) (1 :
    Nat)) ∧ seenInt IntKind.u64 W (addOpt (addOpt a (((↑len : Int) - (1 : Int) - (↑z.val.k : Int)).toNat * (3 : Nat))) (1 : Nat)) ≤ (18446744073709551615 : Int)) ∧ ((0 : Int) ≤
    (↑(z.val.k * (65537 : Nat)) : Int) ∧ (↑(z.val.k * (65537 : Nat)) : Int) ≤ (18446744073709551615 : Int)) ∧ True) ∧ ∀ (v : Value), True ∧ (0 : Nat) + z.val.k ≤ z.val.k ∧ (1 : Nat) +
    z.val.k ≤ (1000000000 : Nat) ∧ ∀ (cap_1 : Nat), (1 : Nat) + z.val.k ≤ cap_1 → ((-9223372036854775808 : Int) ≤ (↑len : Int) - (1 : Int) - (↑z.val.k : Int) - (1 : Int) ∧ (↑len : Int)
    - (1 : Int) - (↑z.val.k : Int) - (1 : Int) ≤ (9223372036854775807 : Int)) ∧ ∃ (z_2 : (Emb.mk { s : CS // HC (eS W a) (eN W a) len s.A s.k ∧ (0 : Nat) < s.k ∧ s.k ≤ len } CY.s).Z),
    len - (CY.s z_2).k < len - (CY.s z).k ∧ a = a ∧ len = len ∧ cap = cap ∧ W = W ∧ (↑(z_2.val.k * (65537 : Nat)) : Int) = (↑(layH z.val.A) : Int) ∧ (0 : Nat) = (0 : Nat) ∧ z_2.val.k =
    (1 : Nat) + z.val.k ∧ z_2.val.cap = cap_1 ∧ (↑len : Int) - (1 : Int) - (↑z_2.val.k : Int) = (↑len : Int) - (1 : Int) - (↑z.val.k : Int) - (1 : Int) ∧ XO.ar z_2.val.A = XO.ar
    (z.val.A.lay [(seenInt IntKind.i64 W (addOpt (addOpt a (((↑len : Int) - (1 : Int) - (↑z.val.k : Int)).toNat * (3 : Nat))) (0 : Nat))).toNat, (seenInt IntKind.u64 W (addOpt (addOpt a
    (((↑len : Int) - (1 : Int) - (↑z.val.k : Int)).toNat * (3 : Nat))) (1 : Nat))).toNat, (↑(z.val.k * (65537 : Nat)) : Int).toNat] v) ∧ (z_2.val.k = (1 : Nat) + z.val.k ∧ z_2.val.cap =
    cap_1 ∧ ∀ (i : Nat), i < z_2.val.k → hsC z_2.val.k i = if i = (0 : Nat) then (↑(layH z.val.A) : Int) else hsC z.val.k (addO true (0 : Nat) (i - (1 : Nat)))) ∧ True) ∧ True) ∧
    (decide ((↑len : Int) - (1 : Int) - (↑z.val.k : Int) ≥ (0 : Int)) = false → ((0 : Int) < (↑(z.val.k * (65537 : Nat)) : Int) ∧ (↑(z.val.k * (65537 : Nat)) : Int) <
    (18446744073709551616 : Int)) ∧ z.val.A.s.back.length ≤ (70000 : Nat) ∧ (chain z.val.A (↑(z.val.k * (65537 : Nat)) : Int).toNat = none → ((0 : Int) < (↑(z.val.k * (65537 : Nat)) :
    Int) ∧ (↑(z.val.k * (65537 : Nat)) : Int) < (18446744073709551616 : Int)) ∧ z.val.A.s.back.length ≤ (70000 : Nat) ∧ (chain z.val.A (↑(z.val.k * (65537 : Nat)) : Int).toNat = none →
    false = true ∧ some W = some W) ∧ ∀ (l : List Ent), chain z.val.A (↑(z.val.k * (65537 : Nat)) : Int).toNat = some l → ∀ (cap : Nat), l.length ≤ cap → false = true ∧ some W = some W)
    ∧ ∀ (l : List Ent), chain z.val.A (↑(z.val.k * (65537 : Nat)) : Int).toNat = some l → ∀ (cap_1 : Nat), l.length ≤ cap_1 → ((0 : Int) < (↑(z.val.k * (65537 : Nat)) : Int) ∧
    (↑(z.val.k * (65537 : Nat)) : Int) < (18446744073709551616 : Int)) ∧ z.val.A.s.back.length ≤ (70000 : Nat) ∧ (chain z.val.A (↑(z.val.k * (65537 : Nat)) : Int).toNat = none → false =
    true ∧ some W = some W) ∧ ∀ (l_1 : List Ent), chain z.val.A (↑(z.val.k * (65537 : Nat)) : Int).toNat = some l_1 → ∀ (cap_2 : Nat), l_1.length ≤ cap_2 → ((↑l.length : Int) != (↑len :
    Int)) = false ∧ l_1.length = l_1.length ∧ cap_2 = cap_2 ∧ z.val.k = z.val.k ∧ z.val.cap = z.val.cap ∧ l_1.length ≤ (1000000000 : Nat) ∧ (∀ (i : Nat), i < l_1.length → (0 : Int) ≤
    entC l_1 i ∧ entC l_1 i ≤ (18446744073709551615 : Int)) ∧ (∀ (i : Nat), i < z.val.k → (0 : Int) ≤ hsC z.val.k i ∧ hsC z.val.k i ≤ (18446744073709551615 : Int)) ∧ (weqF l_1.length
    (entC l_1) z.val.k (hsC z.val.k) = (1 : Int) → (∃ (y : { i : Nat // i ≤ len }), a = a ∧ len = len ∧ cap = cap ∧ (0 : Nat) = (0 : Nat) ∧ l.length = l.length ∧ cap_1 = cap_1 ∧ (↑len :
    Int) = (↑len : Int) ∧ XO.ar z.val.A = XO.ar z.val.A ∧ z.val.k = z.val.k ∧ z.val.cap = z.val.cap ∧ hsC z.val.k = hsC z.val.k ∧ W = W ∧ l.length = l.length ∧ cap_1 = cap_1 ∧ entV l =
    entV l ∧ l_1.length = l_1.length ∧ cap_2 = cap_2 ∧ entC l_1 = entC l_1 ∧ (↑y.val : Int) = (0 : Int) ∧ True) ∧ ∀ (y : { i : Nat // i ≤ len }) (ρ : Nat → Value), (decide ((↑y.val :
    Int) < (↑len : Int)) = true → ((0 : Int) ≤ (↑y.val : Int) ∧ (↑y.val : Int) < (↑l.length : Int)) ∧ addO true (0 : Nat) (↑y.val : Int).toNat < l.length ∧ ((0 : Int) ≤ (↑y.val : Int) ∧
    (↑y.val : Int) < (↑len : Int) ∧ a.isSome = true) ∧ (addOpt a ((↑y.val : Int).toNat * (3 : Nat))).isSome = true ∧ (∃ (x : Addr), addOpt (addOpt a ((↑y.val : Int).toNat *
    Try.prog.types[(77 : Nat)].size)) #[Field.mk "Slot" (3 : Nat) (0 : Nat) false "" "" (0 : Nat), Field.mk "Note" (25 : Nat) (1 : Nat) false "" "" (8 : Nat), Field.mk "Next" (25 : Nat)
    (2 : Nat) false "" "" (16 : Nat)][(0 : Nat)].offset = some x ∧ W.cell? x = some (Value.int IntKind.i64 (seenInt IntKind.i64 W (addOpt (addOpt a ((↑y.val : Int).toNat * (3 : Nat)))
    (0 : Nat))))) ∧ ((l.getD (addO true (0 : Nat) (↑y.val : Int).toNat) ((0 : Nat), (0 : Int), (0 : Int), (0 : Int))).snd.fst != seenInt IntKind.i64 W (addOpt (addOpt a ((↑y.val :
    Int).toNat * (3 : Nat))) (0 : Nat))) = false ∧ ((0 : Int) ≤ (↑y.val : Int) ∧ (↑y.val : Int) < (↑l.length : Int)) ∧ addO true (0 : Nat) (↑y.val : Int).toNat < l.length ∧ ((0 : Int) ≤
    (↑y.val : Int) ∧ (↑y.val : Int) < (↑len : Int) ∧ a.isSome = true) ∧ (addOpt a ((↑y.val : Int).toNat * (3 : Nat))).isSome = true ∧ (∃ (x : Addr), addOpt (addOpt a ((↑y.val :
    Int).toNat * Try.prog.types[(77 : Nat)].size)) #[Field.mk "Slot" (3 : Nat) (0 : Nat) false "" "" (0 : Nat), Field.mk "Note" (25 : Nat) (1 : Nat) false "" "" (8 : Nat), Field.mk
    "Next" (25 : Nat) (2 : Nat) false "" "" (16 : Nat)][(1 : Nat)].offset = some x ∧ W.cell? x = some (Value.int IntKind.u64 (seenInt IntKind.u64 W (addOpt (addOpt a ((↑y.val :
    Int).toNat * (3 : Nat))) (1 : Nat))))) ∧ ((l.getD (addO true (0 : Nat) (↑y.val : Int).toNat) ((0 : Nat), (0 : Int), (0 : Int), (0 : Int))).snd.snd.fst != seenInt IntKind.u64 W
    (addOpt (addOpt a ((↑y.val : Int).toNat * (3 : Nat))) (1 : Nat))) = false ∧ ((-9223372036854775808 : Int) ≤ (↑y.val : Int) + (1 : Int) ∧ (↑y.val : Int) + (1 : Int) ≤
    (9223372036854775807 : Int)) ∧ ∃ (y' : { i : Nat // i ≤ len }), len - y'.val < len - y.val ∧ a = a ∧ len = len ∧ cap = cap ∧ (0 : Nat) = (0 : Nat) ∧ l.length = l.length ∧ cap_1 =
    cap_1 ∧ (↑len : Int) = (↑len : Int) ∧ XO.ar z.val.A = XO.ar z.val.A ∧ z.val.k = z.val.k ∧ z.val.cap = z.val.cap ∧ hsC z.val.k = hsC z.val.k ∧ W = W ∧ l.length = l.length ∧ cap_1 =
    cap_1 ∧ entV l = entV l ∧ l_1.length = l_1.length ∧ cap_2 = cap_2 ∧ entC l_1 = entC l_1 ∧ (↑y'.val : Int) = (↑y.val : Int) + (1 : Int) ∧ True) ∧ (decide ((↑y.val : Int) < (↑len :
    Int)) = false → true = true ∧ some W = some W)) ∧ (weqF l_1.length (entC l_1) z.val.k (hsC z.val.k) = (0 : Int) → false = true ∧ some W = some W))) ∧ True)) := by
  kernel_rfl
theorem headChains_run (W : World) (a : Option Addr) (len cap : Nat) (hc : (0 < len → a.isSome = true) ∧ ∀ j, j < len → EntAt W a j) : Run (callN Try.prog (tblC9 : List (Smry Try.prog XE)) (fun _ _ => false) 100 20 10 [.c (.sliv a false len cap)] ⟨[(0, .seen W)], 1⟩ (.both .nil (loopC W a len)) (fun v m _ => retSeen W v m)) := by
  constructor
  rw [headChains_vc]
  obtain ⟨hs, hx⟩ := hc
  refine ⟨fun _ => ⟨rfl, rfl⟩, fun hlen => ?_⟩
  have hl : len ≤ 200 := by have := of_decide_eq_false hlen; omega
  clear hlen
  refine ⟨⟨by omega, by omega⟩, ⟨by omega, by omega⟩, fun y => embsC_cover y, ⟨⟨⟨0, Ar.new 60000, 0⟩, HC.new _ _ _⟩, rfl, rfl, rfl, rfl, rfl, rfl, trivial⟩, fun z ρ => ?_, fun z ρ => ?_, trivial⟩
  · have h : HC (eS W a) (eN W a) len z.val.A 0 := z.property
    refine ⟨fun hge => ?_, fun hge => ?_⟩
    · have hge := of_decide_eq_true hge
      have ej : ((len : Int) - 1).toNat = len - 1 := by omega
      rw [ej]
      have hx1 := hx (len - 1) (by omega)
      refine ⟨⟨by omega, by omega, hs (by omega)⟩, ⟨hx1.1, hx1.2.1, hx1.2.2, trivial⟩, ⟨⟨eN_le.1, eN_le.2⟩, by omega, by omega⟩, fun _ _ => ⟨rfl, rfl⟩, fun _ ho => ?_, trivial⟩
      have hS : 0 ≤ eS W a (len - 1) ∧ eS W a (len - 1) ≤ 254 := entB_slot ho
      have hb : z.val.A.births < 268435455 := by rw [h.births]; decide
      have hc : z.val.A.used + 3 ≤ z.val.A.cap := by rw [h.used, h.cap]; decide
      refine ⟨rfl, rfl, ⟨by decide, by decide⟩, hc, h.back, hb, ⟨⟨hS.1, Int.le_trans hS.2 (by decide)⟩, ⟨eN_le.1, eN_le.2⟩, ⟨by decide, by decide⟩, trivial⟩, fun v => ⟨trivial, ⟨by omega, by omega⟩, ⟨⟨1, z.val.A.lay [(eS W a (len - 1)).toNat, (eN W a (len - 1)).toNat, 0] v, 1⟩, h.lay (by omega) hl ho eN_le.1 v, Nat.succ_pos 0, ?_⟩, ?_, rfl, rfl, rfl, rfl, ?_, rfl, rfl, rfl, ?_, rfl, ⟨rfl, rfl, by decide, ?_, trivial⟩, trivial⟩⟩
      · show 1 ≤ len
        omega
      · show len - 1 < len - 0
        omega
      · rw [h.layH]
      · show (len : Int) - 1 - ((1 : Nat) : Int) = _
        omega
      · rw [h.layH]
        rfl
    · have hge := of_decide_eq_false hge
      have hl0 : len = 0 := by omega
      subst hl0
      have nn : ∀ {l : List Ent}, some [] = some l → l = [] := fun e => (Option.some.inj e).symm
      have hbk : z.val.A.s.back.length ≤ 70000 := by rw [h.back]; decide
      have ab : ∀ {p : Prop}, (some ([] : List Ent) = none) → p := fun e => by cases e
      have fin : decide ((0 : Int) < ((0 : Nat) : Int)) = false ∧ true = true ∧ some W = some W := ⟨rfl, rfl, rfl⟩
      have z1 : ((0 : Int) != ((0 : Nat) : Int)) = false := rfl
      have n10 : ∀ {p : Prop}, (1 : Int) = 0 → p := fun e => absurd e (by decide)
      have w1 : weqF 0 (entC []) 0 z0 = 1 := weqF_one rfl fun i hi => absurd hi (Nat.not_lt_zero i)
      have wz : ∀ {p : Prop}, weqF 0 (entC []) 0 z0 = 0 → p := fun e => by rw [w1] at e; exact absurd e (by decide)
      have e0 : ∀ i, i < 0 → (0 : Int) ≤ entC [] i ∧ entC [] i ≤ 18446744073709551615 := fun i hi => absurd hi (Nat.not_lt_zero i)
      refine ⟨⟨by decide, by decide⟩, hbk, ab, fun _ => ⟨⟨by decide, by decide⟩, hbk, ab, fun _ => ⟨z1, fun _ => fin, n10⟩, fun l el c hcp => ?_⟩, fun l el c hcp => ⟨⟨by decide, by decide⟩, hbk, ab, fun _ => ⟨?_, fun _ => fin, n10⟩, fun l1 el1 c1 hcp1 => ?_⟩⟩
      · have := nn el
        subst this
        exact ⟨z1, rfl, rfl, by decide, e0, fun _ => fin, wz⟩
      · have := nn el
        subst this
        exact z1
      · have := nn el
        subst this
        have := nn el1
        subst this
        exact ⟨z1, rfl, rfl, by decide, e0, fun _ => fin, wz⟩
  · have h : HC (eS W a) (eN W a) len z.val.A z.val.k := z.property.1
    have hk0 : 0 < z.val.k := z.property.2.1
    have hkl : z.val.k ≤ len := z.property.2.2
    have hbk : z.val.A.s.back.length ≤ 70000 := by rw [h.back]; decide
    refine ⟨fun hge => ?_, fun hge => ?_⟩
    · have hge := of_decide_eq_true hge
      have ej : ((len : Int) - 1 - (z.val.k : Int)).toNat = len - 1 - z.val.k := by omega
      have ek : ((z.val.k * 65537 : Nat) : Int).toNat = z.val.k * 65537 := Int.toNat_natCast _
      rw [ej, ek]
      have hx1 := hx (len - 1 - z.val.k) (by omega)
      refine ⟨⟨by omega, by omega, hs (by omega)⟩, ⟨hx1.1, hx1.2.1, hx1.2.2, trivial⟩, ⟨⟨eN_le.1, eN_le.2⟩, by omega, by omega⟩, fun _ _ => ⟨rfl, rfl⟩, fun _ ho => ?_, trivial⟩
      have hS : 0 ≤ eS W a (len - 1 - z.val.k) ∧ eS W a (len - 1 - z.val.k) ≤ 254 := entB_slot ho
      have hb : z.val.A.births < 268435455 := by rw [h.births]; omega
      have hc : z.val.A.used + 3 ≤ z.val.A.cap := by rw [h.used, h.cap]; omega
      refine ⟨rfl, rfl, ⟨by decide, by decide⟩, hc, h.back, hb, ⟨⟨hS.1, Int.le_trans hS.2 (by decide)⟩, ⟨eN_le.1, eN_le.2⟩, ⟨by omega, by omega⟩, trivial⟩, fun v => ⟨trivial, by omega, by omega, fun c1 hc1 => ⟨⟨by omega, by omega⟩, ⟨⟨z.val.k + 1, z.val.A.lay [(eS W a (len - 1 - z.val.k)).toNat, (eN W a (len - 1 - z.val.k)).toNat, z.val.k * 65537] v, c1⟩, h.lay (by omega) hl ho eN_le.1 v, Nat.succ_pos _, ?_⟩, ?_, rfl, rfl, rfl, rfl, ?_, rfl, Nat.add_comm _ _, rfl, ?_, rfl, ⟨Nat.add_comm _ _, rfl, fun i hi => ?_⟩, trivial⟩⟩⟩
      · show z.val.k + 1 ≤ len
        omega
      · show len - (z.val.k + 1) < len - z.val.k
        omega
      · rw [h.layH]
      · show (len : Int) - 1 - ((z.val.k + 1 : Nat) : Int) = _
        omega
      · exact hsC_step h.layH hi
    · have hge := of_decide_eq_false hge
      have hk : z.val.k = len := by omega
      have ek : ((z.val.k * 65537 : Nat) : Int).toNat = z.val.k * 65537 := Int.toNat_natCast _
      rw [ek]
      have hch := h.chain (by omega)
      have no : ∀ {p : Prop}, chain z.val.A (z.val.k * 65537) = none → p := fun e => by rw [hch] at e; cases e
      have ye : ∀ {l : List Ent}, chain z.val.A (z.val.k * 65537) = some l → l = entsH (eS W a) (eN W a) len z.val.k := fun e => by rw [hch] at e; exact (Option.some.inj e).symm
      have b1 : (0 : Int) < ((z.val.k * 65537 : Nat) : Int) ∧ ((z.val.k * 65537 : Nat) : Int) < 18446744073709551616 := by omega
      refine ⟨b1, hbk, no, fun l el c1 hc1 => ⟨b1, hbk, no, fun l1 el1 c2 hc2 => ?_⟩⟩
      have e1 := ye el
      have e2 := ye el1
      have elen : l.length = len := by rw [e1, entsH_len, hk]
      have elen1 : l1.length = z.val.k := by rw [e2, entsH_len]
      have ent : ∀ i, i < z.val.k → entC l1 i = hsC z.val.k i := fun i hi => by rw [e2]; exact entC_ents hi hkl
      have w1 : weqF l1.length (entC l1) z.val.k (hsC z.val.k) = 1 := weqF_one elen1 fun i hi => ent i (by omega)
      refine ⟨bne_same (by omega), rfl, rfl, rfl, rfl, by omega, fun i hi => ?_, fun i _ => hsC_le (by omega), fun _ => ⟨⟨⟨0, Nat.zero_le _⟩, rfl, rfl, rfl, rfl, rfl, rfl, rfl, rfl, rfl, rfl, rfl, rfl, rfl, rfl, rfl, rfl, rfl, rfl, rfl, trivial⟩, fun y ρ1 => ⟨fun hy => ?_, fun _ => ⟨rfl, rfl⟩⟩⟩, fun e => ?_⟩
      · rw [ent i (by omega)]
        exact hsC_le (by omega)
      · have hy := of_decide_eq_true hy
        have ha : addO true 0 (y.1 : Int).toNat = y.1 := by rw [addO_eq]; omega
        have hb : (y.1 : Int).toNat = y.1 := Int.toNat_natCast _
        rw [ha, hb]
        have hx1 := hx y.1 (by omega)
        have hsm : (addOpt a (y.1 * 3)).isSome = true := by
          obtain ⟨x, hx2⟩ := Option.isSome_iff_exists.1 (hs (by omega))
          rw [hx2]; rfl
        have eg : l.getD y.1 (0, 0, 0, 0) = ((z.val.k - y.1) * 65537, eS W a y.1, eN W a y.1, (((z.val.k - y.1 - 1) * 65537 : Nat) : Int)) := by
          rw [e1, entsH_get _ _ _ _ _ _ (by omega) hkl, show len - z.val.k + y.1 = y.1 by omega]
        rw [eg]
        refine ⟨⟨by omega, by omega⟩, by omega, ⟨by omega, by omega, hs (by omega)⟩, hsm, hx1.1, bne_same rfl, ⟨by omega, by omega⟩, by omega, ⟨by omega, by omega, hs (by omega)⟩, hsm, hx1.2.1, bne_same rfl, ⟨by omega, by omega⟩, ⟨y.1 + 1, by omega⟩, ?_, rfl, rfl, rfl, rfl, rfl, rfl, rfl, rfl, rfl, rfl, rfl, rfl, rfl, rfl, rfl, rfl, rfl, rfl, ?_, trivial⟩
        · show len - (y.1 + 1) < len - y.1
          omega
        · show ((y.1 + 1 : Nat) : Int) = _
          omega
      · rw [w1] at e
        exact absurd e (by decide)
end Go.Proofs.Ytcmoffcaiepgbaa
